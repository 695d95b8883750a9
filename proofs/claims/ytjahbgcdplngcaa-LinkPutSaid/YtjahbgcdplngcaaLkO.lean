/- LinkPut: the law of the given program. -/
import Derived.Test.YtjahbgcdplngcaaLkH
import Derived.Test.YtjahbgcdplngcaaLkN
set_option linter.unusedSimpArgs false
namespace Go.Proofs.Ytjahbgcdplngcaa
open Go Go.Ab


theorem LinkPut_not (l : List Link) (s t : Check) (v : Int) (hm : lmayB l = false) : Pure Try.prog 4 [links l, s.av, t.av, .int .i64 v] (.bool true) := by
  unfold links
  refine pure_of_tr Try.func4 rfl (Nat.le_of_ble_eq_true rfl) rfl fun E hE => ?_
  first | refine tr_seq_region (by rw [hE]; rfl) ?_ | (refine Tr.seq ?_; refine tr_seq_region (by rw [hE]; rfl) ?_)
  repeat (refine vc_op rfl ?_; simp only [go_sem, ↓Nat.reduceBEq, ↓Nat.reduceAdd, ↓Nat.reduceMul, ↓Nat.reduceEqDiff, ↓Nat.reducePow, ↓Nat.reduceLeDiff, ↓Nat.reduceLT, ↓Int.reduceLE, ↓Int.reduceLT, ↓reduceIte, ↓reduceCtorEq])
  refine vc_nil ?_
  first | refine tr_seq_region (by rw [hE]; rfl) ?_ | (refine Tr.seq ?_; refine tr_seq_region (by rw [hE]; rfl) ?_)
  repeat (refine vc_op rfl ?_; simp only [go_sem, ↓Nat.reduceBEq, ↓Nat.reduceAdd, ↓Nat.reduceMul, ↓Nat.reduceEqDiff, ↓Nat.reducePow, ↓Nat.reduceLeDiff, ↓Nat.reduceLT, ↓Int.reduceLE, ↓Int.reduceLT, ↓reduceIte, ↓reduceCtorEq])
  refine call_fn rfl rfl rfl rfl (enters_of Try.func14 (by kernel_rfl) rfl) (lawake_pure) rfl rfl rfl ?_
  simp only [go_sem, ↓Nat.reduceBEq, ↓Nat.reduceAdd, ↓Nat.reduceMul, ↓Nat.reduceEqDiff, ↓Nat.reducePow, ↓Nat.reduceLeDiff, ↓Nat.reduceLT, ↓Int.reduceLE, ↓Int.reduceLT, ↓reduceIte, ↓reduceCtorEq]
  repeat (refine vc_op rfl ?_; simp only [go_sem, ↓Nat.reduceBEq, ↓Nat.reduceAdd, ↓Nat.reduceMul, ↓Nat.reduceEqDiff, ↓Nat.reducePow, ↓Nat.reduceLeDiff, ↓Nat.reduceLT, ↓Int.reduceLE, ↓Int.reduceLT, ↓reduceIte, ↓reduceCtorEq])
  refine vc_nil ?_
  refine Tr.seq ?_
  first | apply tr_m (by rw [hE]; rfl) | (refine Tr.seq ?_; apply tr_m (by rw [hE]; rfl))
  intro Q hQ
  simp only [List.toList_toArray, List.map_cons, List.map_nil, mo, guardSlot, Option.map_some, Option.map_none, List.getElem?_toArray, List.getElem?_cons_succ, List.getElem?_cons_zero, Option.bind_some]
  (refine vm_op ?_); intro r hr; simp only [go_sem, ↓Nat.reduceBEq, ↓Nat.reduceAdd, ↓Nat.reduceMul, ↓Nat.reduceEqDiff, ↓Nat.reducePow, ↓Nat.reduceLeDiff, ↓Nat.reduceLT, ↓Int.reduceLE, ↓Int.reduceLT, ↓reduceIte, ↓reduceCtorEq]; subst hr
  (refine vm_op ?_); intro r hr; simp only [go_sem, ↓Nat.reduceBEq, ↓Nat.reduceAdd, ↓Nat.reduceMul, ↓Nat.reduceEqDiff, ↓Nat.reducePow, ↓Nat.reduceLeDiff, ↓Nat.reduceLT, ↓Int.reduceLE, ↓Int.reduceLT, ↓reduceIte, ↓reduceCtorEq]; subst hr
  (refine vm_op ?_); intro r hr; simp only [go_sem, ↓Nat.reduceBEq, ↓Nat.reduceAdd, ↓Nat.reduceMul, ↓Nat.reduceEqDiff, ↓Nat.reducePow, ↓Nat.reduceLeDiff, ↓Nat.reduceLT, ↓Int.reduceLE, ↓Int.reduceLT, ↓reduceIte, ↓reduceCtorEq]; subst hr
  (first | refine vm_if rfl ?_ | refine vm_no rfl ?_ | refine vm_skip rfl ?_); intro r hr; simp only [go_sem, ↓Nat.reduceBEq, ↓Nat.reduceAdd, ↓Nat.reduceMul, ↓Nat.reduceEqDiff, ↓Nat.reducePow, ↓Nat.reduceLeDiff, ↓Nat.reduceLT, ↓Int.reduceLE, ↓Int.reduceLT, ↓reduceIte, ↓reduceCtorEq]; subst hr
  (first | refine vm_if rfl ?_ | refine vm_no rfl ?_ | refine vm_skip rfl ?_); intro r hr; simp only [go_sem, ↓Nat.reduceBEq, ↓Nat.reduceAdd, ↓Nat.reduceMul, ↓Nat.reduceEqDiff, ↓Nat.reducePow, ↓Nat.reduceLeDiff, ↓Nat.reduceLT, ↓Int.reduceLE, ↓Int.reduceLT, ↓reduceIte, ↓reduceCtorEq]
  refine call_fn rfl rfl rfl rfl (enters_of Try.func21 (by kernel_rfl) rfl) (LMay_pure l) rfl rfl rfl ?_
  simp only [go_sem, ↓Nat.reduceBEq, ↓Nat.reduceAdd, ↓Nat.reduceMul, ↓Nat.reduceEqDiff, ↓Nat.reducePow, ↓Nat.reduceLeDiff, ↓Nat.reduceLT, ↓Int.reduceLE, ↓Int.reduceLT, ↓reduceIte, ↓reduceCtorEq]
  rw [hm]
  subst hr
  (first | refine vm_if rfl ?_ | refine vm_no rfl ?_ | refine vm_skip rfl ?_); intro r hr; simp only [go_sem, ↓Nat.reduceBEq, ↓Nat.reduceAdd, ↓Nat.reduceMul, ↓Nat.reduceEqDiff, ↓Nat.reducePow, ↓Nat.reduceLeDiff, ↓Nat.reduceLT, ↓Int.reduceLE, ↓Int.reduceLT, ↓reduceIte, ↓reduceCtorEq]; subst hr
  (refine vm_op ?_); intro r hr; simp only [go_sem, ↓Nat.reduceBEq, ↓Nat.reduceAdd, ↓Nat.reduceMul, ↓Nat.reduceEqDiff, ↓Nat.reducePow, ↓Nat.reduceLeDiff, ↓Nat.reduceLT, ↓Int.reduceLE, ↓Int.reduceLT, ↓reduceIte, ↓reduceCtorEq]; subst hr
  exact hQ
  refine Tr.cond rfl (fun h1 => ?_) (fun h1 => by cases h1)
  first | refine tr_seq_region (by rw [hE]; rfl) ?_ | (refine Tr.seq ?_; refine tr_seq_region (by rw [hE]; rfl) ?_)
  repeat (refine vc_op rfl ?_; simp only [go_sem, ↓Nat.reduceBEq, ↓Nat.reduceAdd, ↓Nat.reduceMul, ↓Nat.reduceEqDiff, ↓Nat.reducePow, ↓Nat.reduceLeDiff, ↓Nat.reduceLT, ↓Int.reduceLE, ↓Int.reduceLT, ↓reduceIte, ↓reduceCtorEq])
  refine vc_nil ?_
  refine Tr.ret ?_
  simp only [Try.f4, go_sem, ↓Nat.reduceBEq, ↓Nat.reduceAdd, ↓Nat.reduceMul, ↓Nat.reduceEqDiff, ↓Nat.reducePow, ↓Nat.reduceLeDiff, ↓Nat.reduceLT, ↓Int.reduceLE, ↓Int.reduceLT, ↓reduceIte, ↓reduceCtorEq]

theorem LinkPut_err (l : List Link) (s t : Check) (v : Int) (hm : lmayB l = true) (hl : l.length ≤ 16) (hE0 : lputE l s t v ≠ 0) : Pure Try.prog 4 [links l, s.av, t.av, .int .i64 v] (.bool true) := by
  have hL : lputL l s t v = l := by simp [lputL, hE0]
  have he : decide (lputE l s t v = 0) = false := decide_eq_false hE0
  unfold links
  refine pure_of_tr Try.func4 rfl (Nat.le_of_ble_eq_true rfl) rfl fun E hE => ?_
  first | refine tr_seq_region (by rw [hE]; rfl) ?_ | (refine Tr.seq ?_; refine tr_seq_region (by rw [hE]; rfl) ?_)
  repeat (refine vc_op rfl ?_; simp only [go_sem, ↓Nat.reduceBEq, ↓Nat.reduceAdd, ↓Nat.reduceMul, ↓Nat.reduceEqDiff, ↓Nat.reducePow, ↓Nat.reduceLeDiff, ↓Nat.reduceLT, ↓Int.reduceLE, ↓Int.reduceLT, ↓reduceIte, ↓reduceCtorEq])
  refine vc_nil ?_
  first | refine tr_seq_region (by rw [hE]; rfl) ?_ | (refine Tr.seq ?_; refine tr_seq_region (by rw [hE]; rfl) ?_)
  repeat (refine vc_op rfl ?_; simp only [go_sem, ↓Nat.reduceBEq, ↓Nat.reduceAdd, ↓Nat.reduceMul, ↓Nat.reduceEqDiff, ↓Nat.reducePow, ↓Nat.reduceLeDiff, ↓Nat.reduceLT, ↓Int.reduceLE, ↓Int.reduceLT, ↓reduceIte, ↓reduceCtorEq])
  refine call_fn rfl rfl rfl rfl (enters_of Try.func14 (by kernel_rfl) rfl) (lawake_pure) rfl rfl rfl ?_
  simp only [go_sem, ↓Nat.reduceBEq, ↓Nat.reduceAdd, ↓Nat.reduceMul, ↓Nat.reduceEqDiff, ↓Nat.reducePow, ↓Nat.reduceLeDiff, ↓Nat.reduceLT, ↓Int.reduceLE, ↓Int.reduceLT, ↓reduceIte, ↓reduceCtorEq]
  repeat (refine vc_op rfl ?_; simp only [go_sem, ↓Nat.reduceBEq, ↓Nat.reduceAdd, ↓Nat.reduceMul, ↓Nat.reduceEqDiff, ↓Nat.reducePow, ↓Nat.reduceLeDiff, ↓Nat.reduceLT, ↓Int.reduceLE, ↓Int.reduceLT, ↓reduceIte, ↓reduceCtorEq])
  refine vc_nil ?_
  refine Tr.seq ?_
  first | apply tr_m (by rw [hE]; rfl) | (refine Tr.seq ?_; apply tr_m (by rw [hE]; rfl))
  intro Q hQ
  simp only [List.toList_toArray, List.map_cons, List.map_nil, mo, guardSlot, Option.map_some, Option.map_none, List.getElem?_toArray, List.getElem?_cons_succ, List.getElem?_cons_zero, Option.bind_some]
  (refine vm_op ?_); intro r hr; simp only [go_sem, ↓Nat.reduceBEq, ↓Nat.reduceAdd, ↓Nat.reduceMul, ↓Nat.reduceEqDiff, ↓Nat.reducePow, ↓Nat.reduceLeDiff, ↓Nat.reduceLT, ↓Int.reduceLE, ↓Int.reduceLT, ↓reduceIte, ↓reduceCtorEq]; subst hr
  (refine vm_op ?_); intro r hr; simp only [go_sem, ↓Nat.reduceBEq, ↓Nat.reduceAdd, ↓Nat.reduceMul, ↓Nat.reduceEqDiff, ↓Nat.reducePow, ↓Nat.reduceLeDiff, ↓Nat.reduceLT, ↓Int.reduceLE, ↓Int.reduceLT, ↓reduceIte, ↓reduceCtorEq]; subst hr
  (refine vm_op ?_); intro r hr; simp only [go_sem, ↓Nat.reduceBEq, ↓Nat.reduceAdd, ↓Nat.reduceMul, ↓Nat.reduceEqDiff, ↓Nat.reducePow, ↓Nat.reduceLeDiff, ↓Nat.reduceLT, ↓Int.reduceLE, ↓Int.reduceLT, ↓reduceIte, ↓reduceCtorEq]; subst hr
  (first | refine vm_if rfl ?_ | refine vm_no rfl ?_ | refine vm_skip rfl ?_); intro r hr; simp only [go_sem, ↓Nat.reduceBEq, ↓Nat.reduceAdd, ↓Nat.reduceMul, ↓Nat.reduceEqDiff, ↓Nat.reducePow, ↓Nat.reduceLeDiff, ↓Nat.reduceLT, ↓Int.reduceLE, ↓Int.reduceLT, ↓reduceIte, ↓reduceCtorEq]; subst hr
  (first | refine vm_if rfl ?_ | refine vm_no rfl ?_ | refine vm_skip rfl ?_); intro r hr; simp only [go_sem, ↓Nat.reduceBEq, ↓Nat.reduceAdd, ↓Nat.reduceMul, ↓Nat.reduceEqDiff, ↓Nat.reducePow, ↓Nat.reduceLeDiff, ↓Nat.reduceLT, ↓Int.reduceLE, ↓Int.reduceLT, ↓reduceIte, ↓reduceCtorEq]
  refine call_fn rfl rfl rfl rfl (enters_of Try.func21 (by kernel_rfl) rfl) (LMay_pure l) rfl rfl rfl ?_
  simp only [go_sem, ↓Nat.reduceBEq, ↓Nat.reduceAdd, ↓Nat.reduceMul, ↓Nat.reduceEqDiff, ↓Nat.reducePow, ↓Nat.reduceLeDiff, ↓Nat.reduceLT, ↓Int.reduceLE, ↓Int.reduceLT, ↓reduceIte, ↓reduceCtorEq]
  rw [hm]
  subst hr
  (first | refine vm_if rfl ?_ | refine vm_no rfl ?_ | refine vm_skip rfl ?_); intro r hr; simp only [go_sem, ↓Nat.reduceBEq, ↓Nat.reduceAdd, ↓Nat.reduceMul, ↓Nat.reduceEqDiff, ↓Nat.reducePow, ↓Nat.reduceLeDiff, ↓Nat.reduceLT, ↓Int.reduceLE, ↓Int.reduceLT, ↓reduceIte, ↓reduceCtorEq]; subst hr
  (refine vm_op ?_); intro r hr; simp only [go_sem, ↓Nat.reduceBEq, ↓Nat.reduceAdd, ↓Nat.reduceMul, ↓Nat.reduceEqDiff, ↓Nat.reducePow, ↓Nat.reduceLeDiff, ↓Nat.reduceLT, ↓Int.reduceLE, ↓Int.reduceLT, ↓reduceIte, ↓reduceCtorEq]; subst hr
  exact hQ
  refine Tr.cond rfl (fun h1 => by cases h1) (fun h1 => ?_)
  refine Tr.skip ?_
  try simp only [blockK, thenK, ↓reduceIte]
  first | refine tr_seq_region (by rw [hE]; rfl) ?_ | (refine Tr.seq ?_; refine tr_seq_region (by rw [hE]; rfl) ?_)
  repeat (refine vc_op rfl ?_; simp only [go_sem, ↓Nat.reduceBEq, ↓Nat.reduceAdd, ↓Nat.reduceMul, ↓Nat.reduceEqDiff, ↓Nat.reducePow, ↓Nat.reduceLeDiff, ↓Nat.reduceLT, ↓Int.reduceLE, ↓Int.reduceLT, ↓reduceIte, ↓reduceCtorEq])
  refine call_fn rfl rfl rfl rfl (enters_of Try.func15 (by kernel_rfl) rfl) (LPut_pure l s t v (by omega)) rfl rfl rfl ?_
  simp only [go_sem, ↓Nat.reduceBEq, ↓Nat.reduceAdd, ↓Nat.reduceMul, ↓Nat.reduceEqDiff, ↓Nat.reducePow, ↓Nat.reduceLeDiff, ↓Nat.reduceLT, ↓Int.reduceLE, ↓Int.reduceLT, ↓reduceIte, ↓reduceCtorEq]
  repeat (refine vc_op rfl ?_; simp only [hL, go_sem, ↓Nat.reduceBEq, ↓Nat.reduceAdd, ↓Nat.reduceMul, ↓Nat.reduceEqDiff, ↓Nat.reducePow, ↓Nat.reduceLeDiff, ↓Nat.reduceLT, ↓Int.reduceLE, ↓Int.reduceLT, ↓reduceIte, ↓reduceCtorEq])
  refine vc_nil ?_
  refine Tr.seq ?_
  first | refine tr_seq_region (by rw [hE]; rfl) ?_ | (refine Tr.seq ?_; refine tr_seq_region (by rw [hE]; rfl) ?_)
  repeat (refine vc_op rfl ?_; simp only [he, go_sem, ↓Nat.reduceBEq, ↓Nat.reduceAdd, ↓Nat.reduceMul, ↓Nat.reduceEqDiff, ↓Nat.reducePow, ↓Nat.reduceLeDiff, ↓Nat.reduceLT, ↓Int.reduceLE, ↓Int.reduceLT, ↓reduceIte, ↓reduceCtorEq])
  refine vc_nil ?_
  refine Tr.cond rfl (fun h1 => ?_) (fun h1 => by cases h1)
  simp only [links]
  first | refine tr_seq_region (by rw [hE]; rfl) ?_ | (refine Tr.seq ?_; refine tr_seq_region (by rw [hE]; rfl) ?_)
  repeat (refine vc_op rfl ?_; simp only [go_sem, ↓Nat.reduceBEq, ↓Nat.reduceAdd, ↓Nat.reduceMul, ↓Nat.reduceEqDiff, ↓Nat.reducePow, ↓Nat.reduceLeDiff, ↓Nat.reduceLT, ↓Int.reduceLE, ↓Int.reduceLT, ↓reduceIte, ↓reduceCtorEq])
  refine call_fn rfl rfl rfl rfl (enters_of Try.func22 (by kernel_rfl) rfl) (LSame_pure l l (by omega)) rfl rfl rfl ?_
  simp only [go_sem, ↓Nat.reduceBEq, ↓Nat.reduceAdd, ↓Nat.reduceMul, ↓Nat.reduceEqDiff, ↓Nat.reducePow, ↓Nat.reduceLeDiff, ↓Nat.reduceLT, ↓Int.reduceLE, ↓Int.reduceLT, ↓reduceIte, ↓reduceCtorEq]
  repeat (refine vc_op rfl ?_; simp only [go_sem, ↓Nat.reduceBEq, ↓Nat.reduceAdd, ↓Nat.reduceMul, ↓Nat.reduceEqDiff, ↓Nat.reducePow, ↓Nat.reduceLeDiff, ↓Nat.reduceLT, ↓Int.reduceLE, ↓Int.reduceLT, ↓reduceIte, ↓reduceCtorEq])
  refine vc_nil ?_
  refine Tr.ret ?_
  simp only [Try.f4, go_sem, ↓Nat.reduceBEq, ↓Nat.reduceAdd, ↓Nat.reduceMul, ↓Nat.reduceEqDiff, ↓Nat.reducePow, ↓Nat.reduceLeDiff, ↓Nat.reduceLT, ↓Int.reduceLE, ↓Int.reduceLT, ↓reduceIte, ↓reduceCtorEq]

def stPu (l M : List Link) (s t : Check) (v : Int) (i : Nat) : S where
  fr := [(14, .int .i64 i), (0, .sl (l.map Link.av) false), (3, .int .i64 v), (5, .ptr 0 [] 0), (6, .ptr 16 [] 0), (10, .sl (M.map Link.av) false), (12, .sl (M.map Link.av) false), (13, .int .i64 0)]
  hp := [(16, .var t.av), (0, .var s.av)]
  nx := 17

theorem LinkPut_main (l M : List Link) (s t : Check) (v bt : Int) (hbt : bit v = bt) (hm : lmayB l = true) (hl : l.length ≤ 16) (hE0 : lputE l s t v = 0) (hL : lputL l s t v = M) (hE1 : lputE M s t v = 0) (hL1 : lputL M s t v = M)
    (hM : lmayB M = true) (hwho : who M s t = orU (who l s t) bt) (hle : M.length ≤ l.length + 1) (hat : ∀ (i : Nat) (a : Link), l[i]? = some a → M[i]? = some ⟨a.s, a.t, if a.s = s ∧ a.t = t then orU a.mask bt else a.mask⟩) :
    Pure Try.prog 4 [links l, s.av, t.av, .int .i64 v] (.bool true) := by
  unfold links
  refine pure_of_tr Try.func4 rfl (Nat.le_of_ble_eq_true rfl) rfl fun E hE => ?_
  first | refine tr_seq_region (by rw [hE]; rfl) ?_ | (refine Tr.seq ?_; refine tr_seq_region (by rw [hE]; rfl) ?_)
  repeat (refine vc_op rfl ?_; simp only [go_sem, ↓Nat.reduceBEq, ↓Nat.reduceAdd, ↓Nat.reduceMul, ↓Nat.reduceEqDiff, ↓Nat.reducePow, ↓Nat.reduceLeDiff, ↓Nat.reduceLT, ↓Int.reduceLE, ↓Int.reduceLT, ↓reduceIte, ↓reduceCtorEq])
  refine vc_nil ?_
  first | refine tr_seq_region (by rw [hE]; rfl) ?_ | (refine Tr.seq ?_; refine tr_seq_region (by rw [hE]; rfl) ?_)
  repeat (refine vc_op rfl ?_; simp only [go_sem, ↓Nat.reduceBEq, ↓Nat.reduceAdd, ↓Nat.reduceMul, ↓Nat.reduceEqDiff, ↓Nat.reducePow, ↓Nat.reduceLeDiff, ↓Nat.reduceLT, ↓Int.reduceLE, ↓Int.reduceLT, ↓reduceIte, ↓reduceCtorEq])
  refine call_fn rfl rfl rfl rfl (enters_of Try.func14 (by kernel_rfl) rfl) (lawake_pure) rfl rfl rfl ?_
  simp only [go_sem, ↓Nat.reduceBEq, ↓Nat.reduceAdd, ↓Nat.reduceMul, ↓Nat.reduceEqDiff, ↓Nat.reducePow, ↓Nat.reduceLeDiff, ↓Nat.reduceLT, ↓Int.reduceLE, ↓Int.reduceLT, ↓reduceIte, ↓reduceCtorEq]
  repeat (refine vc_op rfl ?_; simp only [go_sem, ↓Nat.reduceBEq, ↓Nat.reduceAdd, ↓Nat.reduceMul, ↓Nat.reduceEqDiff, ↓Nat.reducePow, ↓Nat.reduceLeDiff, ↓Nat.reduceLT, ↓Int.reduceLE, ↓Int.reduceLT, ↓reduceIte, ↓reduceCtorEq])
  refine vc_nil ?_
  refine Tr.seq ?_
  first | apply tr_m (by rw [hE]; rfl) | (refine Tr.seq ?_; apply tr_m (by rw [hE]; rfl))
  intro Q hQ
  simp only [List.toList_toArray, List.map_cons, List.map_nil, mo, guardSlot, Option.map_some, Option.map_none, List.getElem?_toArray, List.getElem?_cons_succ, List.getElem?_cons_zero, Option.bind_some]
  (refine vm_op ?_); intro r hr; simp only [go_sem, ↓Nat.reduceBEq, ↓Nat.reduceAdd, ↓Nat.reduceMul, ↓Nat.reduceEqDiff, ↓Nat.reducePow, ↓Nat.reduceLeDiff, ↓Nat.reduceLT, ↓Int.reduceLE, ↓Int.reduceLT, ↓reduceIte, ↓reduceCtorEq]; subst hr
  (refine vm_op ?_); intro r hr; simp only [go_sem, ↓Nat.reduceBEq, ↓Nat.reduceAdd, ↓Nat.reduceMul, ↓Nat.reduceEqDiff, ↓Nat.reducePow, ↓Nat.reduceLeDiff, ↓Nat.reduceLT, ↓Int.reduceLE, ↓Int.reduceLT, ↓reduceIte, ↓reduceCtorEq]; subst hr
  (refine vm_op ?_); intro r hr; simp only [go_sem, ↓Nat.reduceBEq, ↓Nat.reduceAdd, ↓Nat.reduceMul, ↓Nat.reduceEqDiff, ↓Nat.reducePow, ↓Nat.reduceLeDiff, ↓Nat.reduceLT, ↓Int.reduceLE, ↓Int.reduceLT, ↓reduceIte, ↓reduceCtorEq]; subst hr
  (first | refine vm_if rfl ?_ | refine vm_no rfl ?_ | refine vm_skip rfl ?_); intro r hr; simp only [go_sem, ↓Nat.reduceBEq, ↓Nat.reduceAdd, ↓Nat.reduceMul, ↓Nat.reduceEqDiff, ↓Nat.reducePow, ↓Nat.reduceLeDiff, ↓Nat.reduceLT, ↓Int.reduceLE, ↓Int.reduceLT, ↓reduceIte, ↓reduceCtorEq]; subst hr
  (first | refine vm_if rfl ?_ | refine vm_no rfl ?_ | refine vm_skip rfl ?_); intro r hr; simp only [go_sem, ↓Nat.reduceBEq, ↓Nat.reduceAdd, ↓Nat.reduceMul, ↓Nat.reduceEqDiff, ↓Nat.reducePow, ↓Nat.reduceLeDiff, ↓Nat.reduceLT, ↓Int.reduceLE, ↓Int.reduceLT, ↓reduceIte, ↓reduceCtorEq]
  refine call_fn rfl rfl rfl rfl (enters_of Try.func21 (by kernel_rfl) rfl) (LMay_pure l) rfl rfl rfl ?_
  simp only [go_sem, ↓Nat.reduceBEq, ↓Nat.reduceAdd, ↓Nat.reduceMul, ↓Nat.reduceEqDiff, ↓Nat.reducePow, ↓Nat.reduceLeDiff, ↓Nat.reduceLT, ↓Int.reduceLE, ↓Int.reduceLT, ↓reduceIte, ↓reduceCtorEq]
  rw [hm]
  subst hr
  (first | refine vm_if rfl ?_ | refine vm_no rfl ?_ | refine vm_skip rfl ?_); intro r hr; simp only [go_sem, ↓Nat.reduceBEq, ↓Nat.reduceAdd, ↓Nat.reduceMul, ↓Nat.reduceEqDiff, ↓Nat.reducePow, ↓Nat.reduceLeDiff, ↓Nat.reduceLT, ↓Int.reduceLE, ↓Int.reduceLT, ↓reduceIte, ↓reduceCtorEq]; subst hr
  (refine vm_op ?_); intro r hr; simp only [go_sem, ↓Nat.reduceBEq, ↓Nat.reduceAdd, ↓Nat.reduceMul, ↓Nat.reduceEqDiff, ↓Nat.reducePow, ↓Nat.reduceLeDiff, ↓Nat.reduceLT, ↓Int.reduceLE, ↓Int.reduceLT, ↓reduceIte, ↓reduceCtorEq]; subst hr
  exact hQ
  refine Tr.cond rfl (fun h1 => by cases h1) (fun h1 => ?_)
  refine Tr.skip ?_
  try simp only [blockK, thenK, ↓reduceIte]
  first | refine tr_seq_region (by rw [hE]; rfl) ?_ | (refine Tr.seq ?_; refine tr_seq_region (by rw [hE]; rfl) ?_)
  repeat (refine vc_op rfl ?_; simp only [go_sem, ↓Nat.reduceBEq, ↓Nat.reduceAdd, ↓Nat.reduceMul, ↓Nat.reduceEqDiff, ↓Nat.reducePow, ↓Nat.reduceLeDiff, ↓Nat.reduceLT, ↓Int.reduceLE, ↓Int.reduceLT, ↓reduceIte, ↓reduceCtorEq])
  refine call_fn rfl rfl rfl rfl (enters_of Try.func15 (by kernel_rfl) rfl) (LPut_pure l s t v (by omega)) rfl rfl rfl ?_
  simp only [go_sem, ↓Nat.reduceBEq, ↓Nat.reduceAdd, ↓Nat.reduceMul, ↓Nat.reduceEqDiff, ↓Nat.reducePow, ↓Nat.reduceLeDiff, ↓Nat.reduceLT, ↓Int.reduceLE, ↓Int.reduceLT, ↓reduceIte, ↓reduceCtorEq]
  repeat (refine vc_op rfl ?_; simp only [hL, hE0, go_sem, ↓Nat.reduceBEq, ↓Nat.reduceAdd, ↓Nat.reduceMul, ↓Nat.reduceEqDiff, ↓Nat.reducePow, ↓Nat.reduceLeDiff, ↓Nat.reduceLT, ↓Int.reduceLE, ↓Int.reduceLT, ↓reduceIte, ↓reduceCtorEq])
  refine vc_nil ?_
  refine Tr.seq ?_
  first | refine tr_seq_region (by rw [hE]; rfl) ?_ | (refine Tr.seq ?_; refine tr_seq_region (by rw [hE]; rfl) ?_)
  repeat (refine vc_op rfl ?_; simp only [go_sem, ↓Nat.reduceBEq, ↓Nat.reduceAdd, ↓Nat.reduceMul, ↓Nat.reduceEqDiff, ↓Nat.reducePow, ↓Nat.reduceLeDiff, ↓Nat.reduceLT, ↓Int.reduceLE, ↓Int.reduceLT, ↓reduceIte, ↓reduceCtorEq])
  refine vc_nil ?_
  refine Tr.cond rfl (fun h1 => by cases h1) (fun h1 => ?_)
  refine Tr.skip ?_
  try simp only [blockK, thenK, ↓reduceIte]
  first | refine tr_seq_region (by rw [hE]; rfl) ?_ | (refine Tr.seq ?_; refine tr_seq_region (by rw [hE]; rfl) ?_)
  repeat (refine vc_op rfl ?_; simp only [go_sem, ↓Nat.reduceBEq, ↓Nat.reduceAdd, ↓Nat.reduceMul, ↓Nat.reduceEqDiff, ↓Nat.reducePow, ↓Nat.reduceLeDiff, ↓Nat.reduceLT, ↓Int.reduceLE, ↓Int.reduceLT, ↓reduceIte, ↓reduceCtorEq])
  refine call_fn rfl rfl rfl rfl (enters_of Try.func15 (by kernel_rfl) rfl) (LPut_pure M s t v (by omega)) rfl rfl rfl ?_
  simp only [go_sem, ↓Nat.reduceBEq, ↓Nat.reduceAdd, ↓Nat.reduceMul, ↓Nat.reduceEqDiff, ↓Nat.reducePow, ↓Nat.reduceLeDiff, ↓Nat.reduceLT, ↓Int.reduceLE, ↓Int.reduceLT, ↓reduceIte, ↓reduceCtorEq]
  repeat (refine vc_op rfl ?_; simp only [hL1, hE1, go_sem, ↓Nat.reduceBEq, ↓Nat.reduceAdd, ↓Nat.reduceMul, ↓Nat.reduceEqDiff, ↓Nat.reducePow, ↓Nat.reduceLeDiff, ↓Nat.reduceLT, ↓Int.reduceLE, ↓Int.reduceLT, ↓reduceIte, ↓reduceCtorEq])
  refine vc_nil ?_
  simp only [links]
  refine Tr.seq ?_
  first | refine tr_seq_region (by rw [hE]; rfl) ?_ | (refine Tr.seq ?_; refine tr_seq_region (by rw [hE]; rfl) ?_)
  repeat (refine vc_op rfl ?_; simp only [go_sem, ↓Nat.reduceBEq, ↓Nat.reduceAdd, ↓Nat.reduceMul, ↓Nat.reduceEqDiff, ↓Nat.reducePow, ↓Nat.reduceLeDiff, ↓Nat.reduceLT, ↓Int.reduceLE, ↓Int.reduceLT, ↓reduceIte, ↓reduceCtorEq])
  refine vc_nil ?_
  refine Tr.block ?_
  refine Tr.loop (stPu l M s t v) (fun i => i ≤ l.length) (fun i => l.length - i) 0 (Nat.zero_le _) ?_ ?_
  · refine wk_ren (fun n => n) ?_ ?_ rfl rfl rfl
    · repeat' (first | exact rfl | exact trivial | constructor)
    · repeat' (first | exact rfl | exact trivial | constructor)
  · intro i hi
    unfold stPu
    refine Tr.seq ?_
    first | refine tr_seq_region (by rw [hE]; rfl) ?_ | (refine Tr.seq ?_; refine tr_seq_region (by rw [hE]; rfl) ?_)
    repeat (refine vc_op rfl ?_; simp only [go_sem, ↓Nat.reduceBEq, ↓Nat.reduceAdd, ↓Nat.reduceMul, ↓Nat.reduceEqDiff, ↓Nat.reducePow, ↓Nat.reduceLeDiff, ↓Nat.reduceLT, ↓Int.reduceLE, ↓Int.reduceLT, ↓reduceIte, ↓reduceCtorEq])
    refine vc_nil ?_
    refine Tr.cond rfl (fun h3 => ?_) (fun h3 => ?_)
    · refine Tr.skip ?_
      try simp only [blockK, thenK, ↓reduceIte]
      have hlt : i < l.length := by have := of_decide_eq_true h3; omega
      have ha := nth_map_lt Link.av l i hlt
      have hMi := hat i l[i] (by simp)
      have hiM : i < M.length := (List.getElem?_eq_some_iff.1 hMi).1
      have hb := nth_map_lt Link.av M i hiM
      have hMi' : M[i] = _ := (List.getElem?_eq_some_iff.1 hMi).2
      rw [hMi'] at hb
      clear hMi hMi'
      generalize l[i] = a at ha hb
      have hge : decide ((M.length : Int) ≤ i) = false := decide_eq_false (by omega)
      have hw := wrap_next (n := i) (by omega)
      refine Tr.seq ?_
      refine Tr.block ?_
      by_cases c1 : a.s = s
      · have d1 : decide (a.s = s) = true := decide_eq_true c1
        by_cases c2 : a.t = t
        · have d2 : decide (a.t = t) = true := decide_eq_true c2
          rw [if_pos ⟨c1, c2⟩] at hb
          apply tr_md mixed [0, 16] rfl (by rw [hE]; rfl) (by kernel_rfl)
          intro Q hQ
          simp only [List.toList_toArray, List.map_cons, List.map_nil, mo, guardSlot, Option.map_some, Option.map_none, List.getElem?_toArray, List.getElem?_cons_succ, List.getElem?_cons_zero, Option.bind_some]
          (refine vd2_q rfl ?_); intro r hr; simp only [ha, d1, d2, go_sem, ↓Nat.reduceBEq, ↓Nat.reduceAdd, ↓Nat.reduceMul, ↓Nat.reduceEqDiff, ↓Nat.reducePow, ↓Nat.reduceLeDiff, ↓Nat.reduceLT, ↓Int.reduceLE, ↓Int.reduceLT, ↓reduceIte, ↓reduceCtorEq]; subst hr
          (refine vd2_q rfl ?_); intro r hr; simp only [ha, d1, d2, go_sem, ↓Nat.reduceBEq, ↓Nat.reduceAdd, ↓Nat.reduceMul, ↓Nat.reduceEqDiff, ↓Nat.reducePow, ↓Nat.reduceLeDiff, ↓Nat.reduceLT, ↓Int.reduceLE, ↓Int.reduceLT, ↓reduceIte, ↓reduceCtorEq]; subst hr
          (refine vd2_q rfl ?_); intro r hr; simp only [ha, d1, d2, go_sem, ↓Nat.reduceBEq, ↓Nat.reduceAdd, ↓Nat.reduceMul, ↓Nat.reduceEqDiff, ↓Nat.reducePow, ↓Nat.reduceLeDiff, ↓Nat.reduceLT, ↓Int.reduceLE, ↓Int.reduceLT, ↓reduceIte, ↓reduceCtorEq]; subst hr
          (refine vd2_q rfl ?_); intro r hr; simp only [ha, d1, d2, go_sem, ↓Nat.reduceBEq, ↓Nat.reduceAdd, ↓Nat.reduceMul, ↓Nat.reduceEqDiff, ↓Nat.reducePow, ↓Nat.reduceLeDiff, ↓Nat.reduceLT, ↓Int.reduceLE, ↓Int.reduceLT, ↓reduceIte, ↓reduceCtorEq]; subst hr
          (refine vd2_q rfl ?_); intro r hr; simp only [ha, d1, d2, go_sem, ↓Nat.reduceBEq, ↓Nat.reduceAdd, ↓Nat.reduceMul, ↓Nat.reduceEqDiff, ↓Nat.reducePow, ↓Nat.reduceLeDiff, ↓Nat.reduceLT, ↓Int.reduceLE, ↓Int.reduceLT, ↓reduceIte, ↓reduceCtorEq]; subst hr
          (refine vd2_q rfl ?_); intro r hr; simp only [ha, d1, d2, go_sem, ↓Nat.reduceBEq, ↓Nat.reduceAdd, ↓Nat.reduceMul, ↓Nat.reduceEqDiff, ↓Nat.reducePow, ↓Nat.reduceLeDiff, ↓Nat.reduceLT, ↓Int.reduceLE, ↓Int.reduceLT, ↓reduceIte, ↓reduceCtorEq]; subst hr
          (refine vd2_q rfl ?_); intro r hr; simp only [ha, d1, d2, go_sem, ↓Nat.reduceBEq, ↓Nat.reduceAdd, ↓Nat.reduceMul, ↓Nat.reduceEqDiff, ↓Nat.reducePow, ↓Nat.reduceLeDiff, ↓Nat.reduceLT, ↓Int.reduceLE, ↓Int.reduceLT, ↓reduceIte, ↓reduceCtorEq]; subst hr
          (refine vd2_q rfl ?_); intro r hr; simp only [ha, d1, d2, go_sem, ↓Nat.reduceBEq, ↓Nat.reduceAdd, ↓Nat.reduceMul, ↓Nat.reduceEqDiff, ↓Nat.reducePow, ↓Nat.reduceLeDiff, ↓Nat.reduceLT, ↓Int.reduceLE, ↓Int.reduceLT, ↓reduceIte, ↓reduceCtorEq]; subst hr
          (first | refine vd2_goq rfl rfl ?_ | refine vd2_no rfl ?_ | refine vd2_skip rfl ?_); intro r hr; simp only [ha, d1, d2, go_sem, ↓Nat.reduceBEq, ↓Nat.reduceAdd, ↓Nat.reduceMul, ↓Nat.reduceEqDiff, ↓Nat.reducePow, ↓Nat.reduceLeDiff, ↓Nat.reduceLT, ↓Int.reduceLE, ↓Int.reduceLT, ↓reduceIte, ↓reduceCtorEq]; subst hr
          (first | refine vd2_goq rfl rfl ?_ | refine vd2_no rfl ?_ | refine vd2_skip rfl ?_); intro r hr; simp only [ha, d1, d2, go_sem, ↓Nat.reduceBEq, ↓Nat.reduceAdd, ↓Nat.reduceMul, ↓Nat.reduceEqDiff, ↓Nat.reducePow, ↓Nat.reduceLeDiff, ↓Nat.reduceLT, ↓Int.reduceLE, ↓Int.reduceLT, ↓reduceIte, ↓reduceCtorEq]; subst hr
          (first | refine vd2_goq rfl rfl ?_ | refine vd2_no rfl ?_ | refine vd2_skip rfl ?_); intro r hr; simp only [ha, d1, d2, go_sem, ↓Nat.reduceBEq, ↓Nat.reduceAdd, ↓Nat.reduceMul, ↓Nat.reduceEqDiff, ↓Nat.reducePow, ↓Nat.reduceLeDiff, ↓Nat.reduceLT, ↓Int.reduceLE, ↓Int.reduceLT, ↓reduceIte, ↓reduceCtorEq]; subst hr
          (first | refine vd2_goq rfl rfl ?_ | refine vd2_no rfl ?_ | refine vd2_skip rfl ?_); intro r hr; simp only [ha, d1, d2, go_sem, ↓Nat.reduceBEq, ↓Nat.reduceAdd, ↓Nat.reduceMul, ↓Nat.reduceEqDiff, ↓Nat.reducePow, ↓Nat.reduceLeDiff, ↓Nat.reduceLT, ↓Int.reduceLE, ↓Int.reduceLT, ↓reduceIte, ↓reduceCtorEq]; subst hr
          (first | refine vd2_goq rfl rfl ?_ | refine vd2_no rfl ?_ | refine vd2_skip rfl ?_); intro r hr; simp only [ha, d1, d2, go_sem, ↓Nat.reduceBEq, ↓Nat.reduceAdd, ↓Nat.reduceMul, ↓Nat.reduceEqDiff, ↓Nat.reducePow, ↓Nat.reduceLeDiff, ↓Nat.reduceLT, ↓Int.reduceLE, ↓Int.reduceLT, ↓reduceIte, ↓reduceCtorEq]; subst hr
          (first | refine vd2_goq rfl rfl ?_ | refine vd2_no rfl ?_ | refine vd2_skip rfl ?_); intro r hr; simp only [ha, d1, d2, go_sem, ↓Nat.reduceBEq, ↓Nat.reduceAdd, ↓Nat.reduceMul, ↓Nat.reduceEqDiff, ↓Nat.reducePow, ↓Nat.reduceLeDiff, ↓Nat.reduceLT, ↓Int.reduceLE, ↓Int.reduceLT, ↓reduceIte, ↓reduceCtorEq]; subst hr
          (first | refine vd2_goq rfl rfl ?_ | refine vd2_no rfl ?_ | refine vd2_skip rfl ?_); intro r hr; simp only [ha, d1, d2, go_sem, ↓Nat.reduceBEq, ↓Nat.reduceAdd, ↓Nat.reduceMul, ↓Nat.reduceEqDiff, ↓Nat.reducePow, ↓Nat.reduceLeDiff, ↓Nat.reduceLT, ↓Int.reduceLE, ↓Int.reduceLT, ↓reduceIte, ↓reduceCtorEq]; subst hr
          (refine vd2_q rfl ?_); intro r hr; simp only [ha, d1, d2, go_sem, ↓Nat.reduceBEq, ↓Nat.reduceAdd, ↓Nat.reduceMul, ↓Nat.reduceEqDiff, ↓Nat.reducePow, ↓Nat.reduceLeDiff, ↓Nat.reduceLT, ↓Int.reduceLE, ↓Int.reduceLT, ↓reduceIte, ↓reduceCtorEq]; subst hr
          (refine vd2_q rfl ?_); intro r hr; simp only [ha, d1, d2, go_sem, ↓Nat.reduceBEq, ↓Nat.reduceAdd, ↓Nat.reduceMul, ↓Nat.reduceEqDiff, ↓Nat.reducePow, ↓Nat.reduceLeDiff, ↓Nat.reduceLT, ↓Int.reduceLE, ↓Int.reduceLT, ↓reduceIte, ↓reduceCtorEq]; subst hr
          exact hQ
          apply tr_md mixed [0, 16] rfl (by rw [hE]; rfl) (by kernel_rfl)
          intro Q hQ
          simp only [List.toList_toArray, List.map_cons, List.map_nil, mo, guardSlot, Option.map_some, Option.map_none, List.getElem?_toArray, List.getElem?_cons_succ, List.getElem?_cons_zero, Option.bind_some]
          (refine vd2_q rfl ?_); intro r hr; simp only [hge, ha, hb, go_sem, ↓Nat.reduceBEq, ↓Nat.reduceAdd, ↓Nat.reduceMul, ↓Nat.reduceEqDiff, ↓Nat.reducePow, ↓Nat.reduceLeDiff, ↓Nat.reduceLT, ↓Int.reduceLE, ↓Int.reduceLT, ↓reduceIte, ↓reduceCtorEq]; subst hr
          (refine vd2_q rfl ?_); intro r hr; simp only [hge, ha, hb, go_sem, ↓Nat.reduceBEq, ↓Nat.reduceAdd, ↓Nat.reduceMul, ↓Nat.reduceEqDiff, ↓Nat.reducePow, ↓Nat.reduceLeDiff, ↓Nat.reduceLT, ↓Int.reduceLE, ↓Int.reduceLT, ↓reduceIte, ↓reduceCtorEq]; subst hr
          (refine vd2_q rfl ?_); intro r hr; simp only [hge, ha, hb, go_sem, ↓Nat.reduceBEq, ↓Nat.reduceAdd, ↓Nat.reduceMul, ↓Nat.reduceEqDiff, ↓Nat.reducePow, ↓Nat.reduceLeDiff, ↓Nat.reduceLT, ↓Int.reduceLE, ↓Int.reduceLT, ↓reduceIte, ↓reduceCtorEq]; subst hr
          (refine vd2_q rfl ?_); intro r hr; simp only [hge, ha, hb, go_sem, ↓Nat.reduceBEq, ↓Nat.reduceAdd, ↓Nat.reduceMul, ↓Nat.reduceEqDiff, ↓Nat.reducePow, ↓Nat.reduceLeDiff, ↓Nat.reduceLT, ↓Int.reduceLE, ↓Int.reduceLT, ↓reduceIte, ↓reduceCtorEq]; subst hr
          (refine vd2_q rfl ?_); intro r hr; simp only [hge, ha, hb, go_sem, ↓Nat.reduceBEq, ↓Nat.reduceAdd, ↓Nat.reduceMul, ↓Nat.reduceEqDiff, ↓Nat.reducePow, ↓Nat.reduceLeDiff, ↓Nat.reduceLT, ↓Int.reduceLE, ↓Int.reduceLT, ↓reduceIte, ↓reduceCtorEq]; subst hr
          (first | refine vd2_goq rfl rfl ?_ | refine vd2_no rfl ?_ | refine vd2_skip rfl ?_); intro r hr; simp only [hge, ha, hb, go_sem, ↓Nat.reduceBEq, ↓Nat.reduceAdd, ↓Nat.reduceMul, ↓Nat.reduceEqDiff, ↓Nat.reducePow, ↓Nat.reduceLeDiff, ↓Nat.reduceLT, ↓Int.reduceLE, ↓Int.reduceLT, ↓reduceIte, ↓reduceCtorEq]; subst hr
          (first | refine vd2_goq rfl rfl ?_ | refine vd2_no rfl ?_ | refine vd2_skip rfl ?_); intro r hr; simp only [hge, ha, hb, go_sem, ↓Nat.reduceBEq, ↓Nat.reduceAdd, ↓Nat.reduceMul, ↓Nat.reduceEqDiff, ↓Nat.reducePow, ↓Nat.reduceLeDiff, ↓Nat.reduceLT, ↓Int.reduceLE, ↓Int.reduceLT, ↓reduceIte, ↓reduceCtorEq]; subst hr
          (first | refine vd2_goq rfl rfl ?_ | refine vd2_no rfl ?_ | refine vd2_skip rfl ?_); intro r hr; simp only [hge, ha, hb, go_sem, ↓Nat.reduceBEq, ↓Nat.reduceAdd, ↓Nat.reduceMul, ↓Nat.reduceEqDiff, ↓Nat.reducePow, ↓Nat.reduceLeDiff, ↓Nat.reduceLT, ↓Int.reduceLE, ↓Int.reduceLT, ↓reduceIte, ↓reduceCtorEq]; subst hr
          (first | refine vd2_goq rfl rfl ?_ | refine vd2_no rfl ?_ | refine vd2_skip rfl ?_); intro r hr; simp only [hge, ha, hb, go_sem, ↓Nat.reduceBEq, ↓Nat.reduceAdd, ↓Nat.reduceMul, ↓Nat.reduceEqDiff, ↓Nat.reducePow, ↓Nat.reduceLeDiff, ↓Nat.reduceLT, ↓Int.reduceLE, ↓Int.reduceLT, ↓reduceIte, ↓reduceCtorEq]; subst hr
          (first | refine vd2_goq rfl rfl ?_ | refine vd2_no rfl ?_ | refine vd2_skip rfl ?_); intro r hr; simp only [hge, ha, hb, go_sem, ↓Nat.reduceBEq, ↓Nat.reduceAdd, ↓Nat.reduceMul, ↓Nat.reduceEqDiff, ↓Nat.reducePow, ↓Nat.reduceLeDiff, ↓Nat.reduceLT, ↓Int.reduceLE, ↓Int.reduceLT, ↓reduceIte, ↓reduceCtorEq]; subst hr
          (first | refine vd2_goq rfl rfl ?_ | refine vd2_no rfl ?_ | refine vd2_skip rfl ?_); intro r hr; simp only [hge, ha, hb, go_sem, ↓Nat.reduceBEq, ↓Nat.reduceAdd, ↓Nat.reduceMul, ↓Nat.reduceEqDiff, ↓Nat.reducePow, ↓Nat.reduceLeDiff, ↓Nat.reduceLT, ↓Int.reduceLE, ↓Int.reduceLT, ↓reduceIte, ↓reduceCtorEq]; subst hr
          (first | refine vd2_goq rfl rfl ?_ | refine vd2_no rfl ?_ | refine vd2_skip rfl ?_); intro r hr; simp only [hge, ha, hb, go_sem, ↓Nat.reduceBEq, ↓Nat.reduceAdd, ↓Nat.reduceMul, ↓Nat.reduceEqDiff, ↓Nat.reducePow, ↓Nat.reduceLeDiff, ↓Nat.reduceLT, ↓Int.reduceLE, ↓Int.reduceLT, ↓reduceIte, ↓reduceCtorEq]; subst hr
          (first | refine vd2_goq rfl rfl ?_ | refine vd2_no rfl ?_ | refine vd2_skip rfl ?_); intro r hr; simp only [hge, ha, hb, go_sem, ↓Nat.reduceBEq, ↓Nat.reduceAdd, ↓Nat.reduceMul, ↓Nat.reduceEqDiff, ↓Nat.reducePow, ↓Nat.reduceLeDiff, ↓Nat.reduceLT, ↓Int.reduceLE, ↓Int.reduceLT, ↓reduceIte, ↓reduceCtorEq]; subst hr
          (first | refine vd2_goq rfl rfl ?_ | refine vd2_no rfl ?_ | refine vd2_skip rfl ?_); intro r hr; simp only [hge, ha, hb, go_sem, ↓Nat.reduceBEq, ↓Nat.reduceAdd, ↓Nat.reduceMul, ↓Nat.reduceEqDiff, ↓Nat.reducePow, ↓Nat.reduceLeDiff, ↓Nat.reduceLT, ↓Int.reduceLE, ↓Int.reduceLT, ↓reduceIte, ↓reduceCtorEq]; subst hr
          (first | refine vd2_goq rfl rfl ?_ | refine vd2_no rfl ?_ | refine vd2_skip rfl ?_); intro r hr; simp only [hge, ha, hb, go_sem, ↓Nat.reduceBEq, ↓Nat.reduceAdd, ↓Nat.reduceMul, ↓Nat.reduceEqDiff, ↓Nat.reducePow, ↓Nat.reduceLeDiff, ↓Nat.reduceLT, ↓Int.reduceLE, ↓Int.reduceLT, ↓reduceIte, ↓reduceCtorEq]; subst hr
          (first | refine vd2_goq rfl rfl ?_ | refine vd2_no rfl ?_ | refine vd2_skip rfl ?_); intro r hr; simp only [hge, ha, hb, go_sem, ↓Nat.reduceBEq, ↓Nat.reduceAdd, ↓Nat.reduceMul, ↓Nat.reduceEqDiff, ↓Nat.reducePow, ↓Nat.reduceLeDiff, ↓Nat.reduceLT, ↓Int.reduceLE, ↓Int.reduceLT, ↓reduceIte, ↓reduceCtorEq]; subst hr
          (refine vd2_q rfl ?_); intro r hr; simp only [hge, ha, hb, go_sem, ↓Nat.reduceBEq, ↓Nat.reduceAdd, ↓Nat.reduceMul, ↓Nat.reduceEqDiff, ↓Nat.reducePow, ↓Nat.reduceLeDiff, ↓Nat.reduceLT, ↓Int.reduceLE, ↓Int.reduceLT, ↓reduceIte, ↓reduceCtorEq]; subst hr
          (refine vd2_q rfl ?_); intro r hr; simp only [hge, ha, hb, go_sem, ↓Nat.reduceBEq, ↓Nat.reduceAdd, ↓Nat.reduceMul, ↓Nat.reduceEqDiff, ↓Nat.reducePow, ↓Nat.reduceLeDiff, ↓Nat.reduceLT, ↓Int.reduceLE, ↓Int.reduceLT, ↓reduceIte, ↓reduceCtorEq]; subst hr
          (first | refine vd2_goq rfl rfl ?_ | refine vd2_no rfl ?_ | refine vd2_skip rfl ?_); intro r hr; simp only [hge, ha, hb, go_sem, ↓Nat.reduceBEq, ↓Nat.reduceAdd, ↓Nat.reduceMul, ↓Nat.reduceEqDiff, ↓Nat.reducePow, ↓Nat.reduceLeDiff, ↓Nat.reduceLT, ↓Int.reduceLE, ↓Int.reduceLT, ↓reduceIte, ↓reduceCtorEq]; subst hr
          (first | refine vd2_goq rfl rfl ?_ | refine vd2_no rfl ?_ | refine vd2_skip rfl ?_); intro r hr; simp only [hge, ha, hb, go_sem, ↓Nat.reduceBEq, ↓Nat.reduceAdd, ↓Nat.reduceMul, ↓Nat.reduceEqDiff, ↓Nat.reducePow, ↓Nat.reduceLeDiff, ↓Nat.reduceLT, ↓Int.reduceLE, ↓Int.reduceLT, ↓reduceIte, ↓reduceCtorEq]; subst hr
          (first | refine vd2_goq rfl rfl ?_ | refine vd2_no rfl ?_ | refine vd2_skip rfl ?_); intro r hr; simp only [hge, ha, hb, go_sem, ↓Nat.reduceBEq, ↓Nat.reduceAdd, ↓Nat.reduceMul, ↓Nat.reduceEqDiff, ↓Nat.reducePow, ↓Nat.reduceLeDiff, ↓Nat.reduceLT, ↓Int.reduceLE, ↓Int.reduceLT, ↓reduceIte, ↓reduceCtorEq]; subst hr
          (first | refine vd2_goq rfl rfl ?_ | refine vd2_no rfl ?_ | refine vd2_skip rfl ?_); intro r hr; simp only [hge, ha, hb, go_sem, ↓Nat.reduceBEq, ↓Nat.reduceAdd, ↓Nat.reduceMul, ↓Nat.reduceEqDiff, ↓Nat.reducePow, ↓Nat.reduceLeDiff, ↓Nat.reduceLT, ↓Int.reduceLE, ↓Int.reduceLT, ↓reduceIte, ↓reduceCtorEq]; subst hr
          (first | refine vd2_goq rfl rfl ?_ | refine vd2_no rfl ?_ | refine vd2_skip rfl ?_); intro r hr; simp only [hge, ha, hb, go_sem, ↓Nat.reduceBEq, ↓Nat.reduceAdd, ↓Nat.reduceMul, ↓Nat.reduceEqDiff, ↓Nat.reducePow, ↓Nat.reduceLeDiff, ↓Nat.reduceLT, ↓Int.reduceLE, ↓Int.reduceLT, ↓reduceIte, ↓reduceCtorEq]; subst hr
          (first | refine vd2_goq rfl rfl ?_ | refine vd2_no rfl ?_ | refine vd2_skip rfl ?_); intro r hr; simp only [hge, ha, hb, go_sem, ↓Nat.reduceBEq, ↓Nat.reduceAdd, ↓Nat.reduceMul, ↓Nat.reduceEqDiff, ↓Nat.reducePow, ↓Nat.reduceLeDiff, ↓Nat.reduceLT, ↓Int.reduceLE, ↓Int.reduceLT, ↓reduceIte, ↓reduceCtorEq]; subst hr
          (first | refine vd2_goq rfl rfl ?_ | refine vd2_no rfl ?_ | refine vd2_skip rfl ?_); intro r hr; simp only [hge, ha, hb, go_sem, ↓Nat.reduceBEq, ↓Nat.reduceAdd, ↓Nat.reduceMul, ↓Nat.reduceEqDiff, ↓Nat.reducePow, ↓Nat.reduceLeDiff, ↓Nat.reduceLT, ↓Int.reduceLE, ↓Int.reduceLT, ↓reduceIte, ↓reduceCtorEq]; subst hr
          (first | refine vd2_goq rfl rfl ?_ | refine vd2_no rfl ?_ | refine vd2_skip rfl ?_); intro r hr; simp only [hge, ha, hb, go_sem, ↓Nat.reduceBEq, ↓Nat.reduceAdd, ↓Nat.reduceMul, ↓Nat.reduceEqDiff, ↓Nat.reducePow, ↓Nat.reduceLeDiff, ↓Nat.reduceLT, ↓Int.reduceLE, ↓Int.reduceLT, ↓reduceIte, ↓reduceCtorEq]; subst hr
          (first | refine vd2_goq rfl rfl ?_ | refine vd2_no rfl ?_ | refine vd2_skip rfl ?_); intro r hr; simp only [hge, ha, hb, go_sem, ↓Nat.reduceBEq, ↓Nat.reduceAdd, ↓Nat.reduceMul, ↓Nat.reduceEqDiff, ↓Nat.reducePow, ↓Nat.reduceLeDiff, ↓Nat.reduceLT, ↓Int.reduceLE, ↓Int.reduceLT, ↓reduceIte, ↓reduceCtorEq]; subst hr
          (first | refine vd2_goq rfl rfl ?_ | refine vd2_no rfl ?_ | refine vd2_skip rfl ?_); intro r hr; simp only [hge, ha, hb, go_sem, ↓Nat.reduceBEq, ↓Nat.reduceAdd, ↓Nat.reduceMul, ↓Nat.reduceEqDiff, ↓Nat.reducePow, ↓Nat.reduceLeDiff, ↓Nat.reduceLT, ↓Int.reduceLE, ↓Int.reduceLT, ↓reduceIte, ↓reduceCtorEq]; subst hr
          (first | refine vd2_goq rfl rfl ?_ | refine vd2_no rfl ?_ | refine vd2_skip rfl ?_); intro r hr; simp only [hge, ha, hb, go_sem, ↓Nat.reduceBEq, ↓Nat.reduceAdd, ↓Nat.reduceMul, ↓Nat.reduceEqDiff, ↓Nat.reducePow, ↓Nat.reduceLeDiff, ↓Nat.reduceLT, ↓Int.reduceLE, ↓Int.reduceLT, ↓reduceIte, ↓reduceCtorEq]; subst hr
          (refine vd2_q rfl ?_); intro r hr; simp only [hge, ha, hb, go_sem, ↓Nat.reduceBEq, ↓Nat.reduceAdd, ↓Nat.reduceMul, ↓Nat.reduceEqDiff, ↓Nat.reducePow, ↓Nat.reduceLeDiff, ↓Nat.reduceLT, ↓Int.reduceLE, ↓Int.reduceLT, ↓reduceIte, ↓reduceCtorEq]; subst hr
          (refine vd2_q rfl ?_); intro r hr; simp only [hge, ha, hb, go_sem, ↓Nat.reduceBEq, ↓Nat.reduceAdd, ↓Nat.reduceMul, ↓Nat.reduceEqDiff, ↓Nat.reducePow, ↓Nat.reduceLeDiff, ↓Nat.reduceLT, ↓Int.reduceLE, ↓Int.reduceLT, ↓reduceIte, ↓reduceCtorEq]; subst hr
          (first | refine vd2_goq rfl rfl ?_ | refine vd2_no rfl ?_ | refine vd2_skip rfl ?_); intro r hr; simp only [hge, ha, hb, go_sem, ↓Nat.reduceBEq, ↓Nat.reduceAdd, ↓Nat.reduceMul, ↓Nat.reduceEqDiff, ↓Nat.reducePow, ↓Nat.reduceLeDiff, ↓Nat.reduceLT, ↓Int.reduceLE, ↓Int.reduceLT, ↓reduceIte, ↓reduceCtorEq]; subst hr
          (first | refine vd2_goq rfl rfl ?_ | refine vd2_no rfl ?_ | refine vd2_skip rfl ?_); intro r hr; simp only [hge, ha, hb, go_sem, ↓Nat.reduceBEq, ↓Nat.reduceAdd, ↓Nat.reduceMul, ↓Nat.reduceEqDiff, ↓Nat.reducePow, ↓Nat.reduceLeDiff, ↓Nat.reduceLT, ↓Int.reduceLE, ↓Int.reduceLT, ↓reduceIte, ↓reduceCtorEq]; subst hr
          (first | refine vd2_goq rfl rfl ?_ | refine vd2_no rfl ?_ | refine vd2_skip rfl ?_); intro r hr; simp only [hge, ha, hb, go_sem, ↓Nat.reduceBEq, ↓Nat.reduceAdd, ↓Nat.reduceMul, ↓Nat.reduceEqDiff, ↓Nat.reducePow, ↓Nat.reduceLeDiff, ↓Nat.reduceLT, ↓Int.reduceLE, ↓Int.reduceLT, ↓reduceIte, ↓reduceCtorEq]; subst hr
          (first | refine vd2_goq rfl rfl ?_ | refine vd2_no rfl ?_ | refine vd2_skip rfl ?_); intro r hr; simp only [hge, ha, hb, go_sem, ↓Nat.reduceBEq, ↓Nat.reduceAdd, ↓Nat.reduceMul, ↓Nat.reduceEqDiff, ↓Nat.reducePow, ↓Nat.reduceLeDiff, ↓Nat.reduceLT, ↓Int.reduceLE, ↓Int.reduceLT, ↓reduceIte, ↓reduceCtorEq]; subst hr
          (first | refine vd2_goq rfl rfl ?_ | refine vd2_no rfl ?_ | refine vd2_skip rfl ?_); intro r hr; simp only [hge, ha, hb, go_sem, ↓Nat.reduceBEq, ↓Nat.reduceAdd, ↓Nat.reduceMul, ↓Nat.reduceEqDiff, ↓Nat.reducePow, ↓Nat.reduceLeDiff, ↓Nat.reduceLT, ↓Int.reduceLE, ↓Int.reduceLT, ↓reduceIte, ↓reduceCtorEq]; subst hr
          (first | refine vd2_goq rfl rfl ?_ | refine vd2_no rfl ?_ | refine vd2_skip rfl ?_); intro r hr; simp only [hge, ha, hb, go_sem, ↓Nat.reduceBEq, ↓Nat.reduceAdd, ↓Nat.reduceMul, ↓Nat.reduceEqDiff, ↓Nat.reducePow, ↓Nat.reduceLeDiff, ↓Nat.reduceLT, ↓Int.reduceLE, ↓Int.reduceLT, ↓reduceIte, ↓reduceCtorEq]; subst hr
          (first | refine vd2_goq rfl rfl ?_ | refine vd2_no rfl ?_ | refine vd2_skip rfl ?_); intro r hr; simp only [hge, ha, hb, go_sem, ↓Nat.reduceBEq, ↓Nat.reduceAdd, ↓Nat.reduceMul, ↓Nat.reduceEqDiff, ↓Nat.reducePow, ↓Nat.reduceLeDiff, ↓Nat.reduceLT, ↓Int.reduceLE, ↓Int.reduceLT, ↓reduceIte, ↓reduceCtorEq]; subst hr
          (first | refine vd2_goq rfl rfl ?_ | refine vd2_no rfl ?_ | refine vd2_skip rfl ?_); intro r hr; simp only [hge, ha, hb, go_sem, ↓Nat.reduceBEq, ↓Nat.reduceAdd, ↓Nat.reduceMul, ↓Nat.reduceEqDiff, ↓Nat.reducePow, ↓Nat.reduceLeDiff, ↓Nat.reduceLT, ↓Int.reduceLE, ↓Int.reduceLT, ↓reduceIte, ↓reduceCtorEq]; subst hr
          (first | refine vd2_goq rfl rfl ?_ | refine vd2_no rfl ?_ | refine vd2_skip rfl ?_); intro r hr; simp only [hge, ha, hb, go_sem, ↓Nat.reduceBEq, ↓Nat.reduceAdd, ↓Nat.reduceMul, ↓Nat.reduceEqDiff, ↓Nat.reducePow, ↓Nat.reduceLeDiff, ↓Nat.reduceLT, ↓Int.reduceLE, ↓Int.reduceLT, ↓reduceIte, ↓reduceCtorEq]; subst hr
          (first | refine vd2_goq rfl rfl ?_ | refine vd2_no rfl ?_ | refine vd2_skip rfl ?_); intro r hr; simp only [hge, ha, hb, go_sem, ↓Nat.reduceBEq, ↓Nat.reduceAdd, ↓Nat.reduceMul, ↓Nat.reduceEqDiff, ↓Nat.reducePow, ↓Nat.reduceLeDiff, ↓Nat.reduceLT, ↓Int.reduceLE, ↓Int.reduceLT, ↓reduceIte, ↓reduceCtorEq]; subst hr
          (first | refine vd2_goq rfl rfl ?_ | refine vd2_no rfl ?_ | refine vd2_skip rfl ?_); intro r hr; simp only [hge, ha, hb, go_sem, ↓Nat.reduceBEq, ↓Nat.reduceAdd, ↓Nat.reduceMul, ↓Nat.reduceEqDiff, ↓Nat.reducePow, ↓Nat.reduceLeDiff, ↓Nat.reduceLT, ↓Int.reduceLE, ↓Int.reduceLT, ↓reduceIte, ↓reduceCtorEq]; subst hr
          (first | refine vd2_goq rfl rfl ?_ | refine vd2_no rfl ?_ | refine vd2_skip rfl ?_); intro r hr; simp only [hge, ha, hb, go_sem, ↓Nat.reduceBEq, ↓Nat.reduceAdd, ↓Nat.reduceMul, ↓Nat.reduceEqDiff, ↓Nat.reducePow, ↓Nat.reduceLeDiff, ↓Nat.reduceLT, ↓Int.reduceLE, ↓Int.reduceLT, ↓reduceIte, ↓reduceCtorEq]; subst hr
          (first | refine vd2_goq rfl rfl ?_ | refine vd2_no rfl ?_ | refine vd2_skip rfl ?_); intro r hr; simp only [hge, ha, hb, go_sem, ↓Nat.reduceBEq, ↓Nat.reduceAdd, ↓Nat.reduceMul, ↓Nat.reduceEqDiff, ↓Nat.reducePow, ↓Nat.reduceLeDiff, ↓Nat.reduceLT, ↓Int.reduceLE, ↓Int.reduceLT, ↓reduceIte, ↓reduceCtorEq]; subst hr
          (first | refine vd2_goq rfl rfl ?_ | refine vd2_no rfl ?_ | refine vd2_skip rfl ?_); intro r hr; simp only [hge, ha, hb, go_sem, ↓Nat.reduceBEq, ↓Nat.reduceAdd, ↓Nat.reduceMul, ↓Nat.reduceEqDiff, ↓Nat.reducePow, ↓Nat.reduceLeDiff, ↓Nat.reduceLT, ↓Int.reduceLE, ↓Int.reduceLT, ↓reduceIte, ↓reduceCtorEq]; subst hr
          (first | refine vd2_goq rfl rfl ?_ | refine vd2_no rfl ?_ | refine vd2_skip rfl ?_); intro r hr; simp only [hge, ha, hb, go_sem, ↓Nat.reduceBEq, ↓Nat.reduceAdd, ↓Nat.reduceMul, ↓Nat.reduceEqDiff, ↓Nat.reducePow, ↓Nat.reduceLeDiff, ↓Nat.reduceLT, ↓Int.reduceLE, ↓Int.reduceLT, ↓reduceIte, ↓reduceCtorEq]; subst hr
          (refine vd2_q rfl ?_); intro r hr; simp only [hge, ha, hb, go_sem, ↓Nat.reduceBEq, ↓Nat.reduceAdd, ↓Nat.reduceMul, ↓Nat.reduceEqDiff, ↓Nat.reducePow, ↓Nat.reduceLeDiff, ↓Nat.reduceLT, ↓Int.reduceLE, ↓Int.reduceLT, ↓reduceIte, ↓reduceCtorEq]; subst hr
          (refine vd2_q rfl ?_); intro r hr; simp only [hge, ha, hb, go_sem, ↓Nat.reduceBEq, ↓Nat.reduceAdd, ↓Nat.reduceMul, ↓Nat.reduceEqDiff, ↓Nat.reducePow, ↓Nat.reduceLeDiff, ↓Nat.reduceLT, ↓Int.reduceLE, ↓Int.reduceLT, ↓reduceIte, ↓reduceCtorEq]; subst hr
          (first | refine vd2_goq rfl rfl ?_ | refine vd2_no rfl ?_ | refine vd2_skip rfl ?_); intro r hr; simp only [hge, ha, hb, go_sem, ↓Nat.reduceBEq, ↓Nat.reduceAdd, ↓Nat.reduceMul, ↓Nat.reduceEqDiff, ↓Nat.reducePow, ↓Nat.reduceLeDiff, ↓Nat.reduceLT, ↓Int.reduceLE, ↓Int.reduceLT, ↓reduceIte, ↓reduceCtorEq]; subst hr
          (first | refine vd2_goq rfl rfl ?_ | refine vd2_no rfl ?_ | refine vd2_skip rfl ?_); intro r hr; simp only [hge, ha, hb, go_sem, ↓Nat.reduceBEq, ↓Nat.reduceAdd, ↓Nat.reduceMul, ↓Nat.reduceEqDiff, ↓Nat.reducePow, ↓Nat.reduceLeDiff, ↓Nat.reduceLT, ↓Int.reduceLE, ↓Int.reduceLT, ↓reduceIte, ↓reduceCtorEq]; subst hr
          (first | refine vd2_goq rfl rfl ?_ | refine vd2_no rfl ?_ | refine vd2_skip rfl ?_); intro r hr; simp only [hge, ha, hb, go_sem, ↓Nat.reduceBEq, ↓Nat.reduceAdd, ↓Nat.reduceMul, ↓Nat.reduceEqDiff, ↓Nat.reducePow, ↓Nat.reduceLeDiff, ↓Nat.reduceLT, ↓Int.reduceLE, ↓Int.reduceLT, ↓reduceIte, ↓reduceCtorEq]; subst hr
          (first | refine vd2_goq rfl rfl ?_ | refine vd2_no rfl ?_ | refine vd2_skip rfl ?_); intro r hr; simp only [hge, ha, hb, go_sem, ↓Nat.reduceBEq, ↓Nat.reduceAdd, ↓Nat.reduceMul, ↓Nat.reduceEqDiff, ↓Nat.reducePow, ↓Nat.reduceLeDiff, ↓Nat.reduceLT, ↓Int.reduceLE, ↓Int.reduceLT, ↓reduceIte, ↓reduceCtorEq]; subst hr
          (first | refine vd2_goq rfl rfl ?_ | refine vd2_no rfl ?_ | refine vd2_skip rfl ?_); intro r hr; simp only [hge, ha, hb, go_sem, ↓Nat.reduceBEq, ↓Nat.reduceAdd, ↓Nat.reduceMul, ↓Nat.reduceEqDiff, ↓Nat.reducePow, ↓Nat.reduceLeDiff, ↓Nat.reduceLT, ↓Int.reduceLE, ↓Int.reduceLT, ↓reduceIte, ↓reduceCtorEq]; subst hr
          (first | refine vd2_goq rfl rfl ?_ | refine vd2_no rfl ?_ | refine vd2_skip rfl ?_); intro r hr; simp only [hge, ha, hb, go_sem, ↓Nat.reduceBEq, ↓Nat.reduceAdd, ↓Nat.reduceMul, ↓Nat.reduceEqDiff, ↓Nat.reducePow, ↓Nat.reduceLeDiff, ↓Nat.reduceLT, ↓Int.reduceLE, ↓Int.reduceLT, ↓reduceIte, ↓reduceCtorEq]; subst hr
          (first | refine vd2_goq rfl rfl ?_ | refine vd2_no rfl ?_ | refine vd2_skip rfl ?_); intro r hr; simp only [hge, ha, hb, go_sem, ↓Nat.reduceBEq, ↓Nat.reduceAdd, ↓Nat.reduceMul, ↓Nat.reduceEqDiff, ↓Nat.reducePow, ↓Nat.reduceLeDiff, ↓Nat.reduceLT, ↓Int.reduceLE, ↓Int.reduceLT, ↓reduceIte, ↓reduceCtorEq]; subst hr
          (first | refine vd2_goq rfl rfl ?_ | refine vd2_no rfl ?_ | refine vd2_skip rfl ?_); intro r hr; simp only [hge, ha, hb, go_sem, ↓Nat.reduceBEq, ↓Nat.reduceAdd, ↓Nat.reduceMul, ↓Nat.reduceEqDiff, ↓Nat.reducePow, ↓Nat.reduceLeDiff, ↓Nat.reduceLT, ↓Int.reduceLE, ↓Int.reduceLT, ↓reduceIte, ↓reduceCtorEq]; subst hr
          (first | refine vd2_goq rfl rfl ?_ | refine vd2_no rfl ?_ | refine vd2_skip rfl ?_); intro r hr; simp only [hge, ha, hb, go_sem, ↓Nat.reduceBEq, ↓Nat.reduceAdd, ↓Nat.reduceMul, ↓Nat.reduceEqDiff, ↓Nat.reducePow, ↓Nat.reduceLeDiff, ↓Nat.reduceLT, ↓Int.reduceLE, ↓Int.reduceLT, ↓reduceIte, ↓reduceCtorEq]; subst hr
          (first | refine vd2_goq rfl rfl ?_ | refine vd2_no rfl ?_ | refine vd2_skip rfl ?_); intro r hr; simp only [hge, ha, hb, go_sem, ↓Nat.reduceBEq, ↓Nat.reduceAdd, ↓Nat.reduceMul, ↓Nat.reduceEqDiff, ↓Nat.reducePow, ↓Nat.reduceLeDiff, ↓Nat.reduceLT, ↓Int.reduceLE, ↓Int.reduceLT, ↓reduceIte, ↓reduceCtorEq]; subst hr
          (first | refine vd2_goq rfl rfl ?_ | refine vd2_no rfl ?_ | refine vd2_skip rfl ?_); intro r hr; simp only [hge, ha, hb, go_sem, ↓Nat.reduceBEq, ↓Nat.reduceAdd, ↓Nat.reduceMul, ↓Nat.reduceEqDiff, ↓Nat.reducePow, ↓Nat.reduceLeDiff, ↓Nat.reduceLT, ↓Int.reduceLE, ↓Int.reduceLT, ↓reduceIte, ↓reduceCtorEq]; subst hr
          (first | refine vd2_goq rfl rfl ?_ | refine vd2_no rfl ?_ | refine vd2_skip rfl ?_); intro r hr; simp only [hge, ha, hb, go_sem, ↓Nat.reduceBEq, ↓Nat.reduceAdd, ↓Nat.reduceMul, ↓Nat.reduceEqDiff, ↓Nat.reducePow, ↓Nat.reduceLeDiff, ↓Nat.reduceLT, ↓Int.reduceLE, ↓Int.reduceLT, ↓reduceIte, ↓reduceCtorEq]; subst hr
          (first | refine vd2_goq rfl rfl ?_ | refine vd2_no rfl ?_ | refine vd2_skip rfl ?_); intro r hr; simp only [hge, ha, hb, go_sem, ↓Nat.reduceBEq, ↓Nat.reduceAdd, ↓Nat.reduceMul, ↓Nat.reduceEqDiff, ↓Nat.reducePow, ↓Nat.reduceLeDiff, ↓Nat.reduceLT, ↓Int.reduceLE, ↓Int.reduceLT, ↓reduceIte, ↓reduceCtorEq]; subst hr
          (first | refine vd2_gox rfl rfl ?_ | refine vd2_no rfl ?_ | refine vd2_skip rfl ?_); intro r hr; simp only [hge, ha, hb, go_sem, ↓Nat.reduceBEq, ↓Nat.reduceAdd, ↓Nat.reduceMul, ↓Nat.reduceEqDiff, ↓Nat.reducePow, ↓Nat.reduceLeDiff, ↓Nat.reduceLT, ↓Int.reduceLE, ↓Int.reduceLT, ↓reduceIte, ↓reduceCtorEq]
          refine call_fn rfl rfl rfl rfl (enters_of Try.func27 (by kernel_rfl) rfl) (bit_pure v) rfl rfl rfl ?_
          simp only [go_sem, ↓Nat.reduceBEq, ↓Nat.reduceAdd, ↓Nat.reduceMul, ↓Nat.reduceEqDiff, ↓Nat.reducePow, ↓Nat.reduceLeDiff, ↓Nat.reduceLT, ↓Int.reduceLE, ↓Int.reduceLT, ↓reduceIte, ↓reduceCtorEq]
          rw [hbt]
          subst hr
          (first | refine vd2_goq rfl rfl ?_ | refine vd2_no rfl ?_ | refine vd2_skip rfl ?_); intro r hr; simp only [orU, go_sem, ↓Nat.reduceBEq, ↓Nat.reduceAdd, ↓Nat.reduceMul, ↓Nat.reduceEqDiff, ↓Nat.reducePow, ↓Nat.reduceLeDiff, ↓Nat.reduceLT, ↓Int.reduceLE, ↓Int.reduceLT, ↓reduceIte, ↓reduceCtorEq]; subst hr
          (first | refine vd2_goq rfl rfl ?_ | refine vd2_no rfl ?_ | refine vd2_skip rfl ?_); intro r hr; simp only [orU, go_sem, ↓Nat.reduceBEq, ↓Nat.reduceAdd, ↓Nat.reduceMul, ↓Nat.reduceEqDiff, ↓Nat.reducePow, ↓Nat.reduceLeDiff, ↓Nat.reduceLT, ↓Int.reduceLE, ↓Int.reduceLT, ↓reduceIte, ↓reduceCtorEq]; subst hr
          (first | refine vd2_goq rfl rfl ?_ | refine vd2_no rfl ?_ | refine vd2_skip rfl ?_); intro r hr; simp only [orU, go_sem, ↓Nat.reduceBEq, ↓Nat.reduceAdd, ↓Nat.reduceMul, ↓Nat.reduceEqDiff, ↓Nat.reducePow, ↓Nat.reduceLeDiff, ↓Nat.reduceLT, ↓Int.reduceLE, ↓Int.reduceLT, ↓reduceIte, ↓reduceCtorEq]; subst hr
          (refine vd2_q rfl ?_); intro r hr; simp only [orU, go_sem, ↓Nat.reduceBEq, ↓Nat.reduceAdd, ↓Nat.reduceMul, ↓Nat.reduceEqDiff, ↓Nat.reducePow, ↓Nat.reduceLeDiff, ↓Nat.reduceLT, ↓Int.reduceLE, ↓Int.reduceLT, ↓reduceIte, ↓reduceCtorEq]; subst hr
          exact hQ
          refine Tr.cond rfl (fun h => by cases h) (fun h => ?_)
          refine Tr.skip ?_
          try simp only [blockK, thenK, ↓reduceIte]
          refine tr_region (by rw [hE]; rfl) ?_
          repeat (refine vc_op rfl ?_; simp only [hw, go_sem, ↓Nat.reduceBEq, ↓Nat.reduceAdd, ↓Nat.reduceMul, ↓Nat.reduceEqDiff, ↓Nat.reducePow, ↓Nat.reduceLeDiff, ↓Nat.reduceLT, ↓Int.reduceLE, ↓Int.reduceLT, ↓reduceIte, ↓reduceCtorEq])
          refine vc_nil ?_
          try simp only [blockK, thenK, ↓reduceIte]
          refine ⟨i + 1, hlt, by omega, ?_⟩
          refine wk_ren (fun n => n) ?_ ?_ rfl rfl rfl
          · repeat' (first | exact rfl | exact trivial | constructor)
          · repeat' (first | exact rfl | exact trivial | constructor)
        · have d2 : decide (a.t = t) = false := decide_eq_false c2
          rw [if_neg fun h => c2 h.2] at hb
          apply tr_md mixed [0, 16] rfl (by rw [hE]; rfl) (by kernel_rfl)
          intro Q hQ
          simp only [List.toList_toArray, List.map_cons, List.map_nil, mo, guardSlot, Option.map_some, Option.map_none, List.getElem?_toArray, List.getElem?_cons_succ, List.getElem?_cons_zero, Option.bind_some]
          (refine vd2_q rfl ?_); intro r hr; simp only [ha, d1, d2, go_sem, ↓Nat.reduceBEq, ↓Nat.reduceAdd, ↓Nat.reduceMul, ↓Nat.reduceEqDiff, ↓Nat.reducePow, ↓Nat.reduceLeDiff, ↓Nat.reduceLT, ↓Int.reduceLE, ↓Int.reduceLT, ↓reduceIte, ↓reduceCtorEq]; subst hr
          (refine vd2_q rfl ?_); intro r hr; simp only [ha, d1, d2, go_sem, ↓Nat.reduceBEq, ↓Nat.reduceAdd, ↓Nat.reduceMul, ↓Nat.reduceEqDiff, ↓Nat.reducePow, ↓Nat.reduceLeDiff, ↓Nat.reduceLT, ↓Int.reduceLE, ↓Int.reduceLT, ↓reduceIte, ↓reduceCtorEq]; subst hr
          (refine vd2_q rfl ?_); intro r hr; simp only [ha, d1, d2, go_sem, ↓Nat.reduceBEq, ↓Nat.reduceAdd, ↓Nat.reduceMul, ↓Nat.reduceEqDiff, ↓Nat.reducePow, ↓Nat.reduceLeDiff, ↓Nat.reduceLT, ↓Int.reduceLE, ↓Int.reduceLT, ↓reduceIte, ↓reduceCtorEq]; subst hr
          (refine vd2_q rfl ?_); intro r hr; simp only [ha, d1, d2, go_sem, ↓Nat.reduceBEq, ↓Nat.reduceAdd, ↓Nat.reduceMul, ↓Nat.reduceEqDiff, ↓Nat.reducePow, ↓Nat.reduceLeDiff, ↓Nat.reduceLT, ↓Int.reduceLE, ↓Int.reduceLT, ↓reduceIte, ↓reduceCtorEq]; subst hr
          (refine vd2_q rfl ?_); intro r hr; simp only [ha, d1, d2, go_sem, ↓Nat.reduceBEq, ↓Nat.reduceAdd, ↓Nat.reduceMul, ↓Nat.reduceEqDiff, ↓Nat.reducePow, ↓Nat.reduceLeDiff, ↓Nat.reduceLT, ↓Int.reduceLE, ↓Int.reduceLT, ↓reduceIte, ↓reduceCtorEq]; subst hr
          (refine vd2_q rfl ?_); intro r hr; simp only [ha, d1, d2, go_sem, ↓Nat.reduceBEq, ↓Nat.reduceAdd, ↓Nat.reduceMul, ↓Nat.reduceEqDiff, ↓Nat.reducePow, ↓Nat.reduceLeDiff, ↓Nat.reduceLT, ↓Int.reduceLE, ↓Int.reduceLT, ↓reduceIte, ↓reduceCtorEq]; subst hr
          (refine vd2_q rfl ?_); intro r hr; simp only [ha, d1, d2, go_sem, ↓Nat.reduceBEq, ↓Nat.reduceAdd, ↓Nat.reduceMul, ↓Nat.reduceEqDiff, ↓Nat.reducePow, ↓Nat.reduceLeDiff, ↓Nat.reduceLT, ↓Int.reduceLE, ↓Int.reduceLT, ↓reduceIte, ↓reduceCtorEq]; subst hr
          (refine vd2_q rfl ?_); intro r hr; simp only [ha, d1, d2, go_sem, ↓Nat.reduceBEq, ↓Nat.reduceAdd, ↓Nat.reduceMul, ↓Nat.reduceEqDiff, ↓Nat.reducePow, ↓Nat.reduceLeDiff, ↓Nat.reduceLT, ↓Int.reduceLE, ↓Int.reduceLT, ↓reduceIte, ↓reduceCtorEq]; subst hr
          (first | refine vd2_goq rfl rfl ?_ | refine vd2_no rfl ?_ | refine vd2_skip rfl ?_); intro r hr; simp only [ha, d1, d2, go_sem, ↓Nat.reduceBEq, ↓Nat.reduceAdd, ↓Nat.reduceMul, ↓Nat.reduceEqDiff, ↓Nat.reducePow, ↓Nat.reduceLeDiff, ↓Nat.reduceLT, ↓Int.reduceLE, ↓Int.reduceLT, ↓reduceIte, ↓reduceCtorEq]; subst hr
          (first | refine vd2_goq rfl rfl ?_ | refine vd2_no rfl ?_ | refine vd2_skip rfl ?_); intro r hr; simp only [ha, d1, d2, go_sem, ↓Nat.reduceBEq, ↓Nat.reduceAdd, ↓Nat.reduceMul, ↓Nat.reduceEqDiff, ↓Nat.reducePow, ↓Nat.reduceLeDiff, ↓Nat.reduceLT, ↓Int.reduceLE, ↓Int.reduceLT, ↓reduceIte, ↓reduceCtorEq]; subst hr
          (first | refine vd2_goq rfl rfl ?_ | refine vd2_no rfl ?_ | refine vd2_skip rfl ?_); intro r hr; simp only [ha, d1, d2, go_sem, ↓Nat.reduceBEq, ↓Nat.reduceAdd, ↓Nat.reduceMul, ↓Nat.reduceEqDiff, ↓Nat.reducePow, ↓Nat.reduceLeDiff, ↓Nat.reduceLT, ↓Int.reduceLE, ↓Int.reduceLT, ↓reduceIte, ↓reduceCtorEq]; subst hr
          (first | refine vd2_goq rfl rfl ?_ | refine vd2_no rfl ?_ | refine vd2_skip rfl ?_); intro r hr; simp only [ha, d1, d2, go_sem, ↓Nat.reduceBEq, ↓Nat.reduceAdd, ↓Nat.reduceMul, ↓Nat.reduceEqDiff, ↓Nat.reducePow, ↓Nat.reduceLeDiff, ↓Nat.reduceLT, ↓Int.reduceLE, ↓Int.reduceLT, ↓reduceIte, ↓reduceCtorEq]; subst hr
          (first | refine vd2_goq rfl rfl ?_ | refine vd2_no rfl ?_ | refine vd2_skip rfl ?_); intro r hr; simp only [ha, d1, d2, go_sem, ↓Nat.reduceBEq, ↓Nat.reduceAdd, ↓Nat.reduceMul, ↓Nat.reduceEqDiff, ↓Nat.reducePow, ↓Nat.reduceLeDiff, ↓Nat.reduceLT, ↓Int.reduceLE, ↓Int.reduceLT, ↓reduceIte, ↓reduceCtorEq]; subst hr
          (first | refine vd2_goq rfl rfl ?_ | refine vd2_no rfl ?_ | refine vd2_skip rfl ?_); intro r hr; simp only [ha, d1, d2, go_sem, ↓Nat.reduceBEq, ↓Nat.reduceAdd, ↓Nat.reduceMul, ↓Nat.reduceEqDiff, ↓Nat.reducePow, ↓Nat.reduceLeDiff, ↓Nat.reduceLT, ↓Int.reduceLE, ↓Int.reduceLT, ↓reduceIte, ↓reduceCtorEq]; subst hr
          (first | refine vd2_goq rfl rfl ?_ | refine vd2_no rfl ?_ | refine vd2_skip rfl ?_); intro r hr; simp only [ha, d1, d2, go_sem, ↓Nat.reduceBEq, ↓Nat.reduceAdd, ↓Nat.reduceMul, ↓Nat.reduceEqDiff, ↓Nat.reducePow, ↓Nat.reduceLeDiff, ↓Nat.reduceLT, ↓Int.reduceLE, ↓Int.reduceLT, ↓reduceIte, ↓reduceCtorEq]; subst hr
          (refine vd2_q rfl ?_); intro r hr; simp only [ha, d1, d2, go_sem, ↓Nat.reduceBEq, ↓Nat.reduceAdd, ↓Nat.reduceMul, ↓Nat.reduceEqDiff, ↓Nat.reducePow, ↓Nat.reduceLeDiff, ↓Nat.reduceLT, ↓Int.reduceLE, ↓Int.reduceLT, ↓reduceIte, ↓reduceCtorEq]; subst hr
          (refine vd2_q rfl ?_); intro r hr; simp only [ha, d1, d2, go_sem, ↓Nat.reduceBEq, ↓Nat.reduceAdd, ↓Nat.reduceMul, ↓Nat.reduceEqDiff, ↓Nat.reducePow, ↓Nat.reduceLeDiff, ↓Nat.reduceLT, ↓Int.reduceLE, ↓Int.reduceLT, ↓reduceIte, ↓reduceCtorEq]; subst hr
          exact hQ
          apply tr_md mixed [0, 16] rfl (by rw [hE]; rfl) (by kernel_rfl)
          intro Q hQ
          simp only [List.toList_toArray, List.map_cons, List.map_nil, mo, guardSlot, Option.map_some, Option.map_none, List.getElem?_toArray, List.getElem?_cons_succ, List.getElem?_cons_zero, Option.bind_some]
          (refine vd2_q rfl ?_); intro r hr; simp only [hge, ha, hb, go_sem, ↓Nat.reduceBEq, ↓Nat.reduceAdd, ↓Nat.reduceMul, ↓Nat.reduceEqDiff, ↓Nat.reducePow, ↓Nat.reduceLeDiff, ↓Nat.reduceLT, ↓Int.reduceLE, ↓Int.reduceLT, ↓reduceIte, ↓reduceCtorEq]; subst hr
          (refine vd2_q rfl ?_); intro r hr; simp only [hge, ha, hb, go_sem, ↓Nat.reduceBEq, ↓Nat.reduceAdd, ↓Nat.reduceMul, ↓Nat.reduceEqDiff, ↓Nat.reducePow, ↓Nat.reduceLeDiff, ↓Nat.reduceLT, ↓Int.reduceLE, ↓Int.reduceLT, ↓reduceIte, ↓reduceCtorEq]; subst hr
          (refine vd2_q rfl ?_); intro r hr; simp only [hge, ha, hb, go_sem, ↓Nat.reduceBEq, ↓Nat.reduceAdd, ↓Nat.reduceMul, ↓Nat.reduceEqDiff, ↓Nat.reducePow, ↓Nat.reduceLeDiff, ↓Nat.reduceLT, ↓Int.reduceLE, ↓Int.reduceLT, ↓reduceIte, ↓reduceCtorEq]; subst hr
          (refine vd2_q rfl ?_); intro r hr; simp only [hge, ha, hb, go_sem, ↓Nat.reduceBEq, ↓Nat.reduceAdd, ↓Nat.reduceMul, ↓Nat.reduceEqDiff, ↓Nat.reducePow, ↓Nat.reduceLeDiff, ↓Nat.reduceLT, ↓Int.reduceLE, ↓Int.reduceLT, ↓reduceIte, ↓reduceCtorEq]; subst hr
          (refine vd2_q rfl ?_); intro r hr; simp only [hge, ha, hb, go_sem, ↓Nat.reduceBEq, ↓Nat.reduceAdd, ↓Nat.reduceMul, ↓Nat.reduceEqDiff, ↓Nat.reducePow, ↓Nat.reduceLeDiff, ↓Nat.reduceLT, ↓Int.reduceLE, ↓Int.reduceLT, ↓reduceIte, ↓reduceCtorEq]; subst hr
          (first | refine vd2_goq rfl rfl ?_ | refine vd2_no rfl ?_ | refine vd2_skip rfl ?_); intro r hr; simp only [hge, ha, hb, go_sem, ↓Nat.reduceBEq, ↓Nat.reduceAdd, ↓Nat.reduceMul, ↓Nat.reduceEqDiff, ↓Nat.reducePow, ↓Nat.reduceLeDiff, ↓Nat.reduceLT, ↓Int.reduceLE, ↓Int.reduceLT, ↓reduceIte, ↓reduceCtorEq]; subst hr
          (first | refine vd2_goq rfl rfl ?_ | refine vd2_no rfl ?_ | refine vd2_skip rfl ?_); intro r hr; simp only [hge, ha, hb, go_sem, ↓Nat.reduceBEq, ↓Nat.reduceAdd, ↓Nat.reduceMul, ↓Nat.reduceEqDiff, ↓Nat.reducePow, ↓Nat.reduceLeDiff, ↓Nat.reduceLT, ↓Int.reduceLE, ↓Int.reduceLT, ↓reduceIte, ↓reduceCtorEq]; subst hr
          (first | refine vd2_goq rfl rfl ?_ | refine vd2_no rfl ?_ | refine vd2_skip rfl ?_); intro r hr; simp only [hge, ha, hb, go_sem, ↓Nat.reduceBEq, ↓Nat.reduceAdd, ↓Nat.reduceMul, ↓Nat.reduceEqDiff, ↓Nat.reducePow, ↓Nat.reduceLeDiff, ↓Nat.reduceLT, ↓Int.reduceLE, ↓Int.reduceLT, ↓reduceIte, ↓reduceCtorEq]; subst hr
          (first | refine vd2_goq rfl rfl ?_ | refine vd2_no rfl ?_ | refine vd2_skip rfl ?_); intro r hr; simp only [hge, ha, hb, go_sem, ↓Nat.reduceBEq, ↓Nat.reduceAdd, ↓Nat.reduceMul, ↓Nat.reduceEqDiff, ↓Nat.reducePow, ↓Nat.reduceLeDiff, ↓Nat.reduceLT, ↓Int.reduceLE, ↓Int.reduceLT, ↓reduceIte, ↓reduceCtorEq]; subst hr
          (first | refine vd2_goq rfl rfl ?_ | refine vd2_no rfl ?_ | refine vd2_skip rfl ?_); intro r hr; simp only [hge, ha, hb, go_sem, ↓Nat.reduceBEq, ↓Nat.reduceAdd, ↓Nat.reduceMul, ↓Nat.reduceEqDiff, ↓Nat.reducePow, ↓Nat.reduceLeDiff, ↓Nat.reduceLT, ↓Int.reduceLE, ↓Int.reduceLT, ↓reduceIte, ↓reduceCtorEq]; subst hr
          (first | refine vd2_goq rfl rfl ?_ | refine vd2_no rfl ?_ | refine vd2_skip rfl ?_); intro r hr; simp only [hge, ha, hb, go_sem, ↓Nat.reduceBEq, ↓Nat.reduceAdd, ↓Nat.reduceMul, ↓Nat.reduceEqDiff, ↓Nat.reducePow, ↓Nat.reduceLeDiff, ↓Nat.reduceLT, ↓Int.reduceLE, ↓Int.reduceLT, ↓reduceIte, ↓reduceCtorEq]; subst hr
          (first | refine vd2_goq rfl rfl ?_ | refine vd2_no rfl ?_ | refine vd2_skip rfl ?_); intro r hr; simp only [hge, ha, hb, go_sem, ↓Nat.reduceBEq, ↓Nat.reduceAdd, ↓Nat.reduceMul, ↓Nat.reduceEqDiff, ↓Nat.reducePow, ↓Nat.reduceLeDiff, ↓Nat.reduceLT, ↓Int.reduceLE, ↓Int.reduceLT, ↓reduceIte, ↓reduceCtorEq]; subst hr
          (first | refine vd2_goq rfl rfl ?_ | refine vd2_no rfl ?_ | refine vd2_skip rfl ?_); intro r hr; simp only [hge, ha, hb, go_sem, ↓Nat.reduceBEq, ↓Nat.reduceAdd, ↓Nat.reduceMul, ↓Nat.reduceEqDiff, ↓Nat.reducePow, ↓Nat.reduceLeDiff, ↓Nat.reduceLT, ↓Int.reduceLE, ↓Int.reduceLT, ↓reduceIte, ↓reduceCtorEq]; subst hr
          (first | refine vd2_goq rfl rfl ?_ | refine vd2_no rfl ?_ | refine vd2_skip rfl ?_); intro r hr; simp only [hge, ha, hb, go_sem, ↓Nat.reduceBEq, ↓Nat.reduceAdd, ↓Nat.reduceMul, ↓Nat.reduceEqDiff, ↓Nat.reducePow, ↓Nat.reduceLeDiff, ↓Nat.reduceLT, ↓Int.reduceLE, ↓Int.reduceLT, ↓reduceIte, ↓reduceCtorEq]; subst hr
          (first | refine vd2_goq rfl rfl ?_ | refine vd2_no rfl ?_ | refine vd2_skip rfl ?_); intro r hr; simp only [hge, ha, hb, go_sem, ↓Nat.reduceBEq, ↓Nat.reduceAdd, ↓Nat.reduceMul, ↓Nat.reduceEqDiff, ↓Nat.reducePow, ↓Nat.reduceLeDiff, ↓Nat.reduceLT, ↓Int.reduceLE, ↓Int.reduceLT, ↓reduceIte, ↓reduceCtorEq]; subst hr
          (first | refine vd2_goq rfl rfl ?_ | refine vd2_no rfl ?_ | refine vd2_skip rfl ?_); intro r hr; simp only [hge, ha, hb, go_sem, ↓Nat.reduceBEq, ↓Nat.reduceAdd, ↓Nat.reduceMul, ↓Nat.reduceEqDiff, ↓Nat.reducePow, ↓Nat.reduceLeDiff, ↓Nat.reduceLT, ↓Int.reduceLE, ↓Int.reduceLT, ↓reduceIte, ↓reduceCtorEq]; subst hr
          (refine vd2_q rfl ?_); intro r hr; simp only [hge, ha, hb, go_sem, ↓Nat.reduceBEq, ↓Nat.reduceAdd, ↓Nat.reduceMul, ↓Nat.reduceEqDiff, ↓Nat.reducePow, ↓Nat.reduceLeDiff, ↓Nat.reduceLT, ↓Int.reduceLE, ↓Int.reduceLT, ↓reduceIte, ↓reduceCtorEq]; subst hr
          (refine vd2_q rfl ?_); intro r hr; simp only [hge, ha, hb, go_sem, ↓Nat.reduceBEq, ↓Nat.reduceAdd, ↓Nat.reduceMul, ↓Nat.reduceEqDiff, ↓Nat.reducePow, ↓Nat.reduceLeDiff, ↓Nat.reduceLT, ↓Int.reduceLE, ↓Int.reduceLT, ↓reduceIte, ↓reduceCtorEq]; subst hr
          (first | refine vd2_goq rfl rfl ?_ | refine vd2_no rfl ?_ | refine vd2_skip rfl ?_); intro r hr; simp only [hge, ha, hb, go_sem, ↓Nat.reduceBEq, ↓Nat.reduceAdd, ↓Nat.reduceMul, ↓Nat.reduceEqDiff, ↓Nat.reducePow, ↓Nat.reduceLeDiff, ↓Nat.reduceLT, ↓Int.reduceLE, ↓Int.reduceLT, ↓reduceIte, ↓reduceCtorEq]; subst hr
          (first | refine vd2_goq rfl rfl ?_ | refine vd2_no rfl ?_ | refine vd2_skip rfl ?_); intro r hr; simp only [hge, ha, hb, go_sem, ↓Nat.reduceBEq, ↓Nat.reduceAdd, ↓Nat.reduceMul, ↓Nat.reduceEqDiff, ↓Nat.reducePow, ↓Nat.reduceLeDiff, ↓Nat.reduceLT, ↓Int.reduceLE, ↓Int.reduceLT, ↓reduceIte, ↓reduceCtorEq]; subst hr
          (first | refine vd2_goq rfl rfl ?_ | refine vd2_no rfl ?_ | refine vd2_skip rfl ?_); intro r hr; simp only [hge, ha, hb, go_sem, ↓Nat.reduceBEq, ↓Nat.reduceAdd, ↓Nat.reduceMul, ↓Nat.reduceEqDiff, ↓Nat.reducePow, ↓Nat.reduceLeDiff, ↓Nat.reduceLT, ↓Int.reduceLE, ↓Int.reduceLT, ↓reduceIte, ↓reduceCtorEq]; subst hr
          (first | refine vd2_goq rfl rfl ?_ | refine vd2_no rfl ?_ | refine vd2_skip rfl ?_); intro r hr; simp only [hge, ha, hb, go_sem, ↓Nat.reduceBEq, ↓Nat.reduceAdd, ↓Nat.reduceMul, ↓Nat.reduceEqDiff, ↓Nat.reducePow, ↓Nat.reduceLeDiff, ↓Nat.reduceLT, ↓Int.reduceLE, ↓Int.reduceLT, ↓reduceIte, ↓reduceCtorEq]; subst hr
          (first | refine vd2_goq rfl rfl ?_ | refine vd2_no rfl ?_ | refine vd2_skip rfl ?_); intro r hr; simp only [hge, ha, hb, go_sem, ↓Nat.reduceBEq, ↓Nat.reduceAdd, ↓Nat.reduceMul, ↓Nat.reduceEqDiff, ↓Nat.reducePow, ↓Nat.reduceLeDiff, ↓Nat.reduceLT, ↓Int.reduceLE, ↓Int.reduceLT, ↓reduceIte, ↓reduceCtorEq]; subst hr
          (first | refine vd2_goq rfl rfl ?_ | refine vd2_no rfl ?_ | refine vd2_skip rfl ?_); intro r hr; simp only [hge, ha, hb, go_sem, ↓Nat.reduceBEq, ↓Nat.reduceAdd, ↓Nat.reduceMul, ↓Nat.reduceEqDiff, ↓Nat.reducePow, ↓Nat.reduceLeDiff, ↓Nat.reduceLT, ↓Int.reduceLE, ↓Int.reduceLT, ↓reduceIte, ↓reduceCtorEq]; subst hr
          (first | refine vd2_goq rfl rfl ?_ | refine vd2_no rfl ?_ | refine vd2_skip rfl ?_); intro r hr; simp only [hge, ha, hb, go_sem, ↓Nat.reduceBEq, ↓Nat.reduceAdd, ↓Nat.reduceMul, ↓Nat.reduceEqDiff, ↓Nat.reducePow, ↓Nat.reduceLeDiff, ↓Nat.reduceLT, ↓Int.reduceLE, ↓Int.reduceLT, ↓reduceIte, ↓reduceCtorEq]; subst hr
          (first | refine vd2_goq rfl rfl ?_ | refine vd2_no rfl ?_ | refine vd2_skip rfl ?_); intro r hr; simp only [hge, ha, hb, go_sem, ↓Nat.reduceBEq, ↓Nat.reduceAdd, ↓Nat.reduceMul, ↓Nat.reduceEqDiff, ↓Nat.reducePow, ↓Nat.reduceLeDiff, ↓Nat.reduceLT, ↓Int.reduceLE, ↓Int.reduceLT, ↓reduceIte, ↓reduceCtorEq]; subst hr
          (first | refine vd2_goq rfl rfl ?_ | refine vd2_no rfl ?_ | refine vd2_skip rfl ?_); intro r hr; simp only [hge, ha, hb, go_sem, ↓Nat.reduceBEq, ↓Nat.reduceAdd, ↓Nat.reduceMul, ↓Nat.reduceEqDiff, ↓Nat.reducePow, ↓Nat.reduceLeDiff, ↓Nat.reduceLT, ↓Int.reduceLE, ↓Int.reduceLT, ↓reduceIte, ↓reduceCtorEq]; subst hr
          (first | refine vd2_goq rfl rfl ?_ | refine vd2_no rfl ?_ | refine vd2_skip rfl ?_); intro r hr; simp only [hge, ha, hb, go_sem, ↓Nat.reduceBEq, ↓Nat.reduceAdd, ↓Nat.reduceMul, ↓Nat.reduceEqDiff, ↓Nat.reducePow, ↓Nat.reduceLeDiff, ↓Nat.reduceLT, ↓Int.reduceLE, ↓Int.reduceLT, ↓reduceIte, ↓reduceCtorEq]; subst hr
          (first | refine vd2_goq rfl rfl ?_ | refine vd2_no rfl ?_ | refine vd2_skip rfl ?_); intro r hr; simp only [hge, ha, hb, go_sem, ↓Nat.reduceBEq, ↓Nat.reduceAdd, ↓Nat.reduceMul, ↓Nat.reduceEqDiff, ↓Nat.reducePow, ↓Nat.reduceLeDiff, ↓Nat.reduceLT, ↓Int.reduceLE, ↓Int.reduceLT, ↓reduceIte, ↓reduceCtorEq]; subst hr
          (refine vd2_q rfl ?_); intro r hr; simp only [hge, ha, hb, go_sem, ↓Nat.reduceBEq, ↓Nat.reduceAdd, ↓Nat.reduceMul, ↓Nat.reduceEqDiff, ↓Nat.reducePow, ↓Nat.reduceLeDiff, ↓Nat.reduceLT, ↓Int.reduceLE, ↓Int.reduceLT, ↓reduceIte, ↓reduceCtorEq]; subst hr
          (refine vd2_q rfl ?_); intro r hr; simp only [hge, ha, hb, go_sem, ↓Nat.reduceBEq, ↓Nat.reduceAdd, ↓Nat.reduceMul, ↓Nat.reduceEqDiff, ↓Nat.reducePow, ↓Nat.reduceLeDiff, ↓Nat.reduceLT, ↓Int.reduceLE, ↓Int.reduceLT, ↓reduceIte, ↓reduceCtorEq]; subst hr
          (first | refine vd2_goq rfl rfl ?_ | refine vd2_no rfl ?_ | refine vd2_skip rfl ?_); intro r hr; simp only [hge, ha, hb, go_sem, ↓Nat.reduceBEq, ↓Nat.reduceAdd, ↓Nat.reduceMul, ↓Nat.reduceEqDiff, ↓Nat.reducePow, ↓Nat.reduceLeDiff, ↓Nat.reduceLT, ↓Int.reduceLE, ↓Int.reduceLT, ↓reduceIte, ↓reduceCtorEq]; subst hr
          (first | refine vd2_goq rfl rfl ?_ | refine vd2_no rfl ?_ | refine vd2_skip rfl ?_); intro r hr; simp only [hge, ha, hb, go_sem, ↓Nat.reduceBEq, ↓Nat.reduceAdd, ↓Nat.reduceMul, ↓Nat.reduceEqDiff, ↓Nat.reducePow, ↓Nat.reduceLeDiff, ↓Nat.reduceLT, ↓Int.reduceLE, ↓Int.reduceLT, ↓reduceIte, ↓reduceCtorEq]; subst hr
          (first | refine vd2_goq rfl rfl ?_ | refine vd2_no rfl ?_ | refine vd2_skip rfl ?_); intro r hr; simp only [hge, ha, hb, go_sem, ↓Nat.reduceBEq, ↓Nat.reduceAdd, ↓Nat.reduceMul, ↓Nat.reduceEqDiff, ↓Nat.reducePow, ↓Nat.reduceLeDiff, ↓Nat.reduceLT, ↓Int.reduceLE, ↓Int.reduceLT, ↓reduceIte, ↓reduceCtorEq]; subst hr
          (first | refine vd2_goq rfl rfl ?_ | refine vd2_no rfl ?_ | refine vd2_skip rfl ?_); intro r hr; simp only [hge, ha, hb, go_sem, ↓Nat.reduceBEq, ↓Nat.reduceAdd, ↓Nat.reduceMul, ↓Nat.reduceEqDiff, ↓Nat.reducePow, ↓Nat.reduceLeDiff, ↓Nat.reduceLT, ↓Int.reduceLE, ↓Int.reduceLT, ↓reduceIte, ↓reduceCtorEq]; subst hr
          (first | refine vd2_goq rfl rfl ?_ | refine vd2_no rfl ?_ | refine vd2_skip rfl ?_); intro r hr; simp only [hge, ha, hb, go_sem, ↓Nat.reduceBEq, ↓Nat.reduceAdd, ↓Nat.reduceMul, ↓Nat.reduceEqDiff, ↓Nat.reducePow, ↓Nat.reduceLeDiff, ↓Nat.reduceLT, ↓Int.reduceLE, ↓Int.reduceLT, ↓reduceIte, ↓reduceCtorEq]; subst hr
          (first | refine vd2_goq rfl rfl ?_ | refine vd2_no rfl ?_ | refine vd2_skip rfl ?_); intro r hr; simp only [hge, ha, hb, go_sem, ↓Nat.reduceBEq, ↓Nat.reduceAdd, ↓Nat.reduceMul, ↓Nat.reduceEqDiff, ↓Nat.reducePow, ↓Nat.reduceLeDiff, ↓Nat.reduceLT, ↓Int.reduceLE, ↓Int.reduceLT, ↓reduceIte, ↓reduceCtorEq]; subst hr
          (first | refine vd2_goq rfl rfl ?_ | refine vd2_no rfl ?_ | refine vd2_skip rfl ?_); intro r hr; simp only [hge, ha, hb, go_sem, ↓Nat.reduceBEq, ↓Nat.reduceAdd, ↓Nat.reduceMul, ↓Nat.reduceEqDiff, ↓Nat.reducePow, ↓Nat.reduceLeDiff, ↓Nat.reduceLT, ↓Int.reduceLE, ↓Int.reduceLT, ↓reduceIte, ↓reduceCtorEq]; subst hr
          (first | refine vd2_goq rfl rfl ?_ | refine vd2_no rfl ?_ | refine vd2_skip rfl ?_); intro r hr; simp only [hge, ha, hb, go_sem, ↓Nat.reduceBEq, ↓Nat.reduceAdd, ↓Nat.reduceMul, ↓Nat.reduceEqDiff, ↓Nat.reducePow, ↓Nat.reduceLeDiff, ↓Nat.reduceLT, ↓Int.reduceLE, ↓Int.reduceLT, ↓reduceIte, ↓reduceCtorEq]; subst hr
          (first | refine vd2_goq rfl rfl ?_ | refine vd2_no rfl ?_ | refine vd2_skip rfl ?_); intro r hr; simp only [hge, ha, hb, go_sem, ↓Nat.reduceBEq, ↓Nat.reduceAdd, ↓Nat.reduceMul, ↓Nat.reduceEqDiff, ↓Nat.reducePow, ↓Nat.reduceLeDiff, ↓Nat.reduceLT, ↓Int.reduceLE, ↓Int.reduceLT, ↓reduceIte, ↓reduceCtorEq]; subst hr
          (first | refine vd2_goq rfl rfl ?_ | refine vd2_no rfl ?_ | refine vd2_skip rfl ?_); intro r hr; simp only [hge, ha, hb, go_sem, ↓Nat.reduceBEq, ↓Nat.reduceAdd, ↓Nat.reduceMul, ↓Nat.reduceEqDiff, ↓Nat.reducePow, ↓Nat.reduceLeDiff, ↓Nat.reduceLT, ↓Int.reduceLE, ↓Int.reduceLT, ↓reduceIte, ↓reduceCtorEq]; subst hr
          (first | refine vd2_goq rfl rfl ?_ | refine vd2_no rfl ?_ | refine vd2_skip rfl ?_); intro r hr; simp only [hge, ha, hb, go_sem, ↓Nat.reduceBEq, ↓Nat.reduceAdd, ↓Nat.reduceMul, ↓Nat.reduceEqDiff, ↓Nat.reducePow, ↓Nat.reduceLeDiff, ↓Nat.reduceLT, ↓Int.reduceLE, ↓Int.reduceLT, ↓reduceIte, ↓reduceCtorEq]; subst hr
          (first | refine vd2_goq rfl rfl ?_ | refine vd2_no rfl ?_ | refine vd2_skip rfl ?_); intro r hr; simp only [hge, ha, hb, go_sem, ↓Nat.reduceBEq, ↓Nat.reduceAdd, ↓Nat.reduceMul, ↓Nat.reduceEqDiff, ↓Nat.reducePow, ↓Nat.reduceLeDiff, ↓Nat.reduceLT, ↓Int.reduceLE, ↓Int.reduceLT, ↓reduceIte, ↓reduceCtorEq]; subst hr
          (first | refine vd2_goq rfl rfl ?_ | refine vd2_no rfl ?_ | refine vd2_skip rfl ?_); intro r hr; simp only [hge, ha, hb, go_sem, ↓Nat.reduceBEq, ↓Nat.reduceAdd, ↓Nat.reduceMul, ↓Nat.reduceEqDiff, ↓Nat.reducePow, ↓Nat.reduceLeDiff, ↓Nat.reduceLT, ↓Int.reduceLE, ↓Int.reduceLT, ↓reduceIte, ↓reduceCtorEq]; subst hr
          (first | refine vd2_goq rfl rfl ?_ | refine vd2_no rfl ?_ | refine vd2_skip rfl ?_); intro r hr; simp only [hge, ha, hb, go_sem, ↓Nat.reduceBEq, ↓Nat.reduceAdd, ↓Nat.reduceMul, ↓Nat.reduceEqDiff, ↓Nat.reducePow, ↓Nat.reduceLeDiff, ↓Nat.reduceLT, ↓Int.reduceLE, ↓Int.reduceLT, ↓reduceIte, ↓reduceCtorEq]; subst hr
          (first | refine vd2_goq rfl rfl ?_ | refine vd2_no rfl ?_ | refine vd2_skip rfl ?_); intro r hr; simp only [hge, ha, hb, go_sem, ↓Nat.reduceBEq, ↓Nat.reduceAdd, ↓Nat.reduceMul, ↓Nat.reduceEqDiff, ↓Nat.reducePow, ↓Nat.reduceLeDiff, ↓Nat.reduceLT, ↓Int.reduceLE, ↓Int.reduceLT, ↓reduceIte, ↓reduceCtorEq]; subst hr
          (refine vd2_q rfl ?_); intro r hr; simp only [hge, ha, hb, go_sem, ↓Nat.reduceBEq, ↓Nat.reduceAdd, ↓Nat.reduceMul, ↓Nat.reduceEqDiff, ↓Nat.reducePow, ↓Nat.reduceLeDiff, ↓Nat.reduceLT, ↓Int.reduceLE, ↓Int.reduceLT, ↓reduceIte, ↓reduceCtorEq]; subst hr
          (refine vd2_q rfl ?_); intro r hr; simp only [hge, ha, hb, go_sem, ↓Nat.reduceBEq, ↓Nat.reduceAdd, ↓Nat.reduceMul, ↓Nat.reduceEqDiff, ↓Nat.reducePow, ↓Nat.reduceLeDiff, ↓Nat.reduceLT, ↓Int.reduceLE, ↓Int.reduceLT, ↓reduceIte, ↓reduceCtorEq]; subst hr
          (first | refine vd2_goq rfl rfl ?_ | refine vd2_no rfl ?_ | refine vd2_skip rfl ?_); intro r hr; simp only [hge, ha, hb, go_sem, ↓Nat.reduceBEq, ↓Nat.reduceAdd, ↓Nat.reduceMul, ↓Nat.reduceEqDiff, ↓Nat.reducePow, ↓Nat.reduceLeDiff, ↓Nat.reduceLT, ↓Int.reduceLE, ↓Int.reduceLT, ↓reduceIte, ↓reduceCtorEq]; subst hr
          (first | refine vd2_goq rfl rfl ?_ | refine vd2_no rfl ?_ | refine vd2_skip rfl ?_); intro r hr; simp only [hge, ha, hb, go_sem, ↓Nat.reduceBEq, ↓Nat.reduceAdd, ↓Nat.reduceMul, ↓Nat.reduceEqDiff, ↓Nat.reducePow, ↓Nat.reduceLeDiff, ↓Nat.reduceLT, ↓Int.reduceLE, ↓Int.reduceLT, ↓reduceIte, ↓reduceCtorEq]; subst hr
          (first | refine vd2_goq rfl rfl ?_ | refine vd2_no rfl ?_ | refine vd2_skip rfl ?_); intro r hr; simp only [hge, ha, hb, go_sem, ↓Nat.reduceBEq, ↓Nat.reduceAdd, ↓Nat.reduceMul, ↓Nat.reduceEqDiff, ↓Nat.reducePow, ↓Nat.reduceLeDiff, ↓Nat.reduceLT, ↓Int.reduceLE, ↓Int.reduceLT, ↓reduceIte, ↓reduceCtorEq]; subst hr
          (first | refine vd2_goq rfl rfl ?_ | refine vd2_no rfl ?_ | refine vd2_skip rfl ?_); intro r hr; simp only [hge, ha, hb, go_sem, ↓Nat.reduceBEq, ↓Nat.reduceAdd, ↓Nat.reduceMul, ↓Nat.reduceEqDiff, ↓Nat.reducePow, ↓Nat.reduceLeDiff, ↓Nat.reduceLT, ↓Int.reduceLE, ↓Int.reduceLT, ↓reduceIte, ↓reduceCtorEq]; subst hr
          (first | refine vd2_goq rfl rfl ?_ | refine vd2_no rfl ?_ | refine vd2_skip rfl ?_); intro r hr; simp only [hge, ha, hb, go_sem, ↓Nat.reduceBEq, ↓Nat.reduceAdd, ↓Nat.reduceMul, ↓Nat.reduceEqDiff, ↓Nat.reducePow, ↓Nat.reduceLeDiff, ↓Nat.reduceLT, ↓Int.reduceLE, ↓Int.reduceLT, ↓reduceIte, ↓reduceCtorEq]; subst hr
          (first | refine vd2_goq rfl rfl ?_ | refine vd2_no rfl ?_ | refine vd2_skip rfl ?_); intro r hr; simp only [hge, ha, hb, go_sem, ↓Nat.reduceBEq, ↓Nat.reduceAdd, ↓Nat.reduceMul, ↓Nat.reduceEqDiff, ↓Nat.reducePow, ↓Nat.reduceLeDiff, ↓Nat.reduceLT, ↓Int.reduceLE, ↓Int.reduceLT, ↓reduceIte, ↓reduceCtorEq]; subst hr
          (first | refine vd2_goq rfl rfl ?_ | refine vd2_no rfl ?_ | refine vd2_skip rfl ?_); intro r hr; simp only [hge, ha, hb, go_sem, ↓Nat.reduceBEq, ↓Nat.reduceAdd, ↓Nat.reduceMul, ↓Nat.reduceEqDiff, ↓Nat.reducePow, ↓Nat.reduceLeDiff, ↓Nat.reduceLT, ↓Int.reduceLE, ↓Int.reduceLT, ↓reduceIte, ↓reduceCtorEq]; subst hr
          (first | refine vd2_goq rfl rfl ?_ | refine vd2_no rfl ?_ | refine vd2_skip rfl ?_); intro r hr; simp only [hge, ha, hb, go_sem, ↓Nat.reduceBEq, ↓Nat.reduceAdd, ↓Nat.reduceMul, ↓Nat.reduceEqDiff, ↓Nat.reducePow, ↓Nat.reduceLeDiff, ↓Nat.reduceLT, ↓Int.reduceLE, ↓Int.reduceLT, ↓reduceIte, ↓reduceCtorEq]; subst hr
          (first | refine vd2_goq rfl rfl ?_ | refine vd2_no rfl ?_ | refine vd2_skip rfl ?_); intro r hr; simp only [hge, ha, hb, go_sem, ↓Nat.reduceBEq, ↓Nat.reduceAdd, ↓Nat.reduceMul, ↓Nat.reduceEqDiff, ↓Nat.reducePow, ↓Nat.reduceLeDiff, ↓Nat.reduceLT, ↓Int.reduceLE, ↓Int.reduceLT, ↓reduceIte, ↓reduceCtorEq]; subst hr
          (first | refine vd2_goq rfl rfl ?_ | refine vd2_no rfl ?_ | refine vd2_skip rfl ?_); intro r hr; simp only [hge, ha, hb, go_sem, ↓Nat.reduceBEq, ↓Nat.reduceAdd, ↓Nat.reduceMul, ↓Nat.reduceEqDiff, ↓Nat.reducePow, ↓Nat.reduceLeDiff, ↓Nat.reduceLT, ↓Int.reduceLE, ↓Int.reduceLT, ↓reduceIte, ↓reduceCtorEq]; subst hr
          (first | refine vd2_goq rfl rfl ?_ | refine vd2_no rfl ?_ | refine vd2_skip rfl ?_); intro r hr; simp only [hge, ha, hb, go_sem, ↓Nat.reduceBEq, ↓Nat.reduceAdd, ↓Nat.reduceMul, ↓Nat.reduceEqDiff, ↓Nat.reducePow, ↓Nat.reduceLeDiff, ↓Nat.reduceLT, ↓Int.reduceLE, ↓Int.reduceLT, ↓reduceIte, ↓reduceCtorEq]; subst hr
          (first | refine vd2_goq rfl rfl ?_ | refine vd2_no rfl ?_ | refine vd2_skip rfl ?_); intro r hr; simp only [hge, ha, hb, go_sem, ↓Nat.reduceBEq, ↓Nat.reduceAdd, ↓Nat.reduceMul, ↓Nat.reduceEqDiff, ↓Nat.reducePow, ↓Nat.reduceLeDiff, ↓Nat.reduceLT, ↓Int.reduceLE, ↓Int.reduceLT, ↓reduceIte, ↓reduceCtorEq]; subst hr
          (first | refine vd2_goq rfl rfl ?_ | refine vd2_no rfl ?_ | refine vd2_skip rfl ?_); intro r hr; simp only [hge, ha, hb, go_sem, ↓Nat.reduceBEq, ↓Nat.reduceAdd, ↓Nat.reduceMul, ↓Nat.reduceEqDiff, ↓Nat.reducePow, ↓Nat.reduceLeDiff, ↓Nat.reduceLT, ↓Int.reduceLE, ↓Int.reduceLT, ↓reduceIte, ↓reduceCtorEq]; subst hr
          (first | refine vd2_goq rfl rfl ?_ | refine vd2_no rfl ?_ | refine vd2_skip rfl ?_); intro r hr; simp only [hge, ha, hb, go_sem, ↓Nat.reduceBEq, ↓Nat.reduceAdd, ↓Nat.reduceMul, ↓Nat.reduceEqDiff, ↓Nat.reducePow, ↓Nat.reduceLeDiff, ↓Nat.reduceLT, ↓Int.reduceLE, ↓Int.reduceLT, ↓reduceIte, ↓reduceCtorEq]; subst hr
          (first | refine vd2_goq rfl rfl ?_ | refine vd2_no rfl ?_ | refine vd2_skip rfl ?_); intro r hr; simp only [hge, ha, hb, go_sem, ↓Nat.reduceBEq, ↓Nat.reduceAdd, ↓Nat.reduceMul, ↓Nat.reduceEqDiff, ↓Nat.reducePow, ↓Nat.reduceLeDiff, ↓Nat.reduceLT, ↓Int.reduceLE, ↓Int.reduceLT, ↓reduceIte, ↓reduceCtorEq]; subst hr
          (first | refine vd2_goq rfl rfl ?_ | refine vd2_no rfl ?_ | refine vd2_skip rfl ?_); intro r hr; simp only [hge, ha, hb, go_sem, ↓Nat.reduceBEq, ↓Nat.reduceAdd, ↓Nat.reduceMul, ↓Nat.reduceEqDiff, ↓Nat.reducePow, ↓Nat.reduceLeDiff, ↓Nat.reduceLT, ↓Int.reduceLE, ↓Int.reduceLT, ↓reduceIte, ↓reduceCtorEq]; subst hr
          (first | refine vd2_goq rfl rfl ?_ | refine vd2_no rfl ?_ | refine vd2_skip rfl ?_); intro r hr; simp only [hge, ha, hb, go_sem, ↓Nat.reduceBEq, ↓Nat.reduceAdd, ↓Nat.reduceMul, ↓Nat.reduceEqDiff, ↓Nat.reducePow, ↓Nat.reduceLeDiff, ↓Nat.reduceLT, ↓Int.reduceLE, ↓Int.reduceLT, ↓reduceIte, ↓reduceCtorEq]; subst hr
          (refine vd2_q rfl ?_); intro r hr; simp only [hge, ha, hb, go_sem, ↓Nat.reduceBEq, ↓Nat.reduceAdd, ↓Nat.reduceMul, ↓Nat.reduceEqDiff, ↓Nat.reducePow, ↓Nat.reduceLeDiff, ↓Nat.reduceLT, ↓Int.reduceLE, ↓Int.reduceLT, ↓reduceIte, ↓reduceCtorEq]; subst hr
          exact hQ
          refine Tr.cond rfl (fun h => by cases h) (fun h => ?_)
          refine Tr.skip ?_
          try simp only [blockK, thenK, ↓reduceIte]
          refine tr_region (by rw [hE]; rfl) ?_
          repeat (refine vc_op rfl ?_; simp only [hw, go_sem, ↓Nat.reduceBEq, ↓Nat.reduceAdd, ↓Nat.reduceMul, ↓Nat.reduceEqDiff, ↓Nat.reducePow, ↓Nat.reduceLeDiff, ↓Nat.reduceLT, ↓Int.reduceLE, ↓Int.reduceLT, ↓reduceIte, ↓reduceCtorEq])
          refine vc_nil ?_
          try simp only [blockK, thenK, ↓reduceIte]
          refine ⟨i + 1, hlt, by omega, ?_⟩
          refine wk_ren (fun n => n) ?_ ?_ rfl rfl rfl
          · repeat' (first | exact rfl | exact trivial | constructor)
          · repeat' (first | exact rfl | exact trivial | constructor)
      · have d1 : decide (a.s = s) = false := decide_eq_false c1
        rw [if_neg fun h => c1 h.1] at hb
        apply tr_md mixed [0, 16] rfl (by rw [hE]; rfl) (by kernel_rfl)
        intro Q hQ
        simp only [List.toList_toArray, List.map_cons, List.map_nil, mo, guardSlot, Option.map_some, Option.map_none, List.getElem?_toArray, List.getElem?_cons_succ, List.getElem?_cons_zero, Option.bind_some]
        (refine vd2_q rfl ?_); intro r hr; simp only [ha, d1, go_sem, ↓Nat.reduceBEq, ↓Nat.reduceAdd, ↓Nat.reduceMul, ↓Nat.reduceEqDiff, ↓Nat.reducePow, ↓Nat.reduceLeDiff, ↓Nat.reduceLT, ↓Int.reduceLE, ↓Int.reduceLT, ↓reduceIte, ↓reduceCtorEq]; subst hr
        (refine vd2_q rfl ?_); intro r hr; simp only [ha, d1, go_sem, ↓Nat.reduceBEq, ↓Nat.reduceAdd, ↓Nat.reduceMul, ↓Nat.reduceEqDiff, ↓Nat.reducePow, ↓Nat.reduceLeDiff, ↓Nat.reduceLT, ↓Int.reduceLE, ↓Int.reduceLT, ↓reduceIte, ↓reduceCtorEq]; subst hr
        (refine vd2_q rfl ?_); intro r hr; simp only [ha, d1, go_sem, ↓Nat.reduceBEq, ↓Nat.reduceAdd, ↓Nat.reduceMul, ↓Nat.reduceEqDiff, ↓Nat.reducePow, ↓Nat.reduceLeDiff, ↓Nat.reduceLT, ↓Int.reduceLE, ↓Int.reduceLT, ↓reduceIte, ↓reduceCtorEq]; subst hr
        (refine vd2_q rfl ?_); intro r hr; simp only [ha, d1, go_sem, ↓Nat.reduceBEq, ↓Nat.reduceAdd, ↓Nat.reduceMul, ↓Nat.reduceEqDiff, ↓Nat.reducePow, ↓Nat.reduceLeDiff, ↓Nat.reduceLT, ↓Int.reduceLE, ↓Int.reduceLT, ↓reduceIte, ↓reduceCtorEq]; subst hr
        (refine vd2_q rfl ?_); intro r hr; simp only [ha, d1, go_sem, ↓Nat.reduceBEq, ↓Nat.reduceAdd, ↓Nat.reduceMul, ↓Nat.reduceEqDiff, ↓Nat.reducePow, ↓Nat.reduceLeDiff, ↓Nat.reduceLT, ↓Int.reduceLE, ↓Int.reduceLT, ↓reduceIte, ↓reduceCtorEq]; subst hr
        (refine vd2_q rfl ?_); intro r hr; simp only [ha, d1, go_sem, ↓Nat.reduceBEq, ↓Nat.reduceAdd, ↓Nat.reduceMul, ↓Nat.reduceEqDiff, ↓Nat.reducePow, ↓Nat.reduceLeDiff, ↓Nat.reduceLT, ↓Int.reduceLE, ↓Int.reduceLT, ↓reduceIte, ↓reduceCtorEq]; subst hr
        (refine vd2_q rfl ?_); intro r hr; simp only [ha, d1, go_sem, ↓Nat.reduceBEq, ↓Nat.reduceAdd, ↓Nat.reduceMul, ↓Nat.reduceEqDiff, ↓Nat.reducePow, ↓Nat.reduceLeDiff, ↓Nat.reduceLT, ↓Int.reduceLE, ↓Int.reduceLT, ↓reduceIte, ↓reduceCtorEq]; subst hr
        (refine vd2_q rfl ?_); intro r hr; simp only [ha, d1, go_sem, ↓Nat.reduceBEq, ↓Nat.reduceAdd, ↓Nat.reduceMul, ↓Nat.reduceEqDiff, ↓Nat.reducePow, ↓Nat.reduceLeDiff, ↓Nat.reduceLT, ↓Int.reduceLE, ↓Int.reduceLT, ↓reduceIte, ↓reduceCtorEq]; subst hr
        (first | refine vd2_goq rfl rfl ?_ | refine vd2_no rfl ?_ | refine vd2_skip rfl ?_); intro r hr; simp only [ha, d1, go_sem, ↓Nat.reduceBEq, ↓Nat.reduceAdd, ↓Nat.reduceMul, ↓Nat.reduceEqDiff, ↓Nat.reducePow, ↓Nat.reduceLeDiff, ↓Nat.reduceLT, ↓Int.reduceLE, ↓Int.reduceLT, ↓reduceIte, ↓reduceCtorEq]; subst hr
        (first | refine vd2_goq rfl rfl ?_ | refine vd2_no rfl ?_ | refine vd2_skip rfl ?_); intro r hr; simp only [ha, d1, go_sem, ↓Nat.reduceBEq, ↓Nat.reduceAdd, ↓Nat.reduceMul, ↓Nat.reduceEqDiff, ↓Nat.reducePow, ↓Nat.reduceLeDiff, ↓Nat.reduceLT, ↓Int.reduceLE, ↓Int.reduceLT, ↓reduceIte, ↓reduceCtorEq]; subst hr
        (first | refine vd2_goq rfl rfl ?_ | refine vd2_no rfl ?_ | refine vd2_skip rfl ?_); intro r hr; simp only [ha, d1, go_sem, ↓Nat.reduceBEq, ↓Nat.reduceAdd, ↓Nat.reduceMul, ↓Nat.reduceEqDiff, ↓Nat.reducePow, ↓Nat.reduceLeDiff, ↓Nat.reduceLT, ↓Int.reduceLE, ↓Int.reduceLT, ↓reduceIte, ↓reduceCtorEq]; subst hr
        (first | refine vd2_goq rfl rfl ?_ | refine vd2_no rfl ?_ | refine vd2_skip rfl ?_); intro r hr; simp only [ha, d1, go_sem, ↓Nat.reduceBEq, ↓Nat.reduceAdd, ↓Nat.reduceMul, ↓Nat.reduceEqDiff, ↓Nat.reducePow, ↓Nat.reduceLeDiff, ↓Nat.reduceLT, ↓Int.reduceLE, ↓Int.reduceLT, ↓reduceIte, ↓reduceCtorEq]; subst hr
        (first | refine vd2_goq rfl rfl ?_ | refine vd2_no rfl ?_ | refine vd2_skip rfl ?_); intro r hr; simp only [ha, d1, go_sem, ↓Nat.reduceBEq, ↓Nat.reduceAdd, ↓Nat.reduceMul, ↓Nat.reduceEqDiff, ↓Nat.reducePow, ↓Nat.reduceLeDiff, ↓Nat.reduceLT, ↓Int.reduceLE, ↓Int.reduceLT, ↓reduceIte, ↓reduceCtorEq]; subst hr
        (first | refine vd2_goq rfl rfl ?_ | refine vd2_no rfl ?_ | refine vd2_skip rfl ?_); intro r hr; simp only [ha, d1, go_sem, ↓Nat.reduceBEq, ↓Nat.reduceAdd, ↓Nat.reduceMul, ↓Nat.reduceEqDiff, ↓Nat.reducePow, ↓Nat.reduceLeDiff, ↓Nat.reduceLT, ↓Int.reduceLE, ↓Int.reduceLT, ↓reduceIte, ↓reduceCtorEq]; subst hr
        (first | refine vd2_goq rfl rfl ?_ | refine vd2_no rfl ?_ | refine vd2_skip rfl ?_); intro r hr; simp only [ha, d1, go_sem, ↓Nat.reduceBEq, ↓Nat.reduceAdd, ↓Nat.reduceMul, ↓Nat.reduceEqDiff, ↓Nat.reducePow, ↓Nat.reduceLeDiff, ↓Nat.reduceLT, ↓Int.reduceLE, ↓Int.reduceLT, ↓reduceIte, ↓reduceCtorEq]; subst hr
        (refine vd2_q rfl ?_); intro r hr; simp only [ha, d1, go_sem, ↓Nat.reduceBEq, ↓Nat.reduceAdd, ↓Nat.reduceMul, ↓Nat.reduceEqDiff, ↓Nat.reducePow, ↓Nat.reduceLeDiff, ↓Nat.reduceLT, ↓Int.reduceLE, ↓Int.reduceLT, ↓reduceIte, ↓reduceCtorEq]; subst hr
        (refine vd2_q rfl ?_); intro r hr; simp only [ha, d1, go_sem, ↓Nat.reduceBEq, ↓Nat.reduceAdd, ↓Nat.reduceMul, ↓Nat.reduceEqDiff, ↓Nat.reducePow, ↓Nat.reduceLeDiff, ↓Nat.reduceLT, ↓Int.reduceLE, ↓Int.reduceLT, ↓reduceIte, ↓reduceCtorEq]; subst hr
        exact hQ
        apply tr_md mixed [0, 16] rfl (by rw [hE]; rfl) (by kernel_rfl)
        intro Q hQ
        simp only [List.toList_toArray, List.map_cons, List.map_nil, mo, guardSlot, Option.map_some, Option.map_none, List.getElem?_toArray, List.getElem?_cons_succ, List.getElem?_cons_zero, Option.bind_some]
        (refine vd2_q rfl ?_); intro r hr; simp only [hge, ha, hb, go_sem, ↓Nat.reduceBEq, ↓Nat.reduceAdd, ↓Nat.reduceMul, ↓Nat.reduceEqDiff, ↓Nat.reducePow, ↓Nat.reduceLeDiff, ↓Nat.reduceLT, ↓Int.reduceLE, ↓Int.reduceLT, ↓reduceIte, ↓reduceCtorEq]; subst hr
        (refine vd2_q rfl ?_); intro r hr; simp only [hge, ha, hb, go_sem, ↓Nat.reduceBEq, ↓Nat.reduceAdd, ↓Nat.reduceMul, ↓Nat.reduceEqDiff, ↓Nat.reducePow, ↓Nat.reduceLeDiff, ↓Nat.reduceLT, ↓Int.reduceLE, ↓Int.reduceLT, ↓reduceIte, ↓reduceCtorEq]; subst hr
        (refine vd2_q rfl ?_); intro r hr; simp only [hge, ha, hb, go_sem, ↓Nat.reduceBEq, ↓Nat.reduceAdd, ↓Nat.reduceMul, ↓Nat.reduceEqDiff, ↓Nat.reducePow, ↓Nat.reduceLeDiff, ↓Nat.reduceLT, ↓Int.reduceLE, ↓Int.reduceLT, ↓reduceIte, ↓reduceCtorEq]; subst hr
        (refine vd2_q rfl ?_); intro r hr; simp only [hge, ha, hb, go_sem, ↓Nat.reduceBEq, ↓Nat.reduceAdd, ↓Nat.reduceMul, ↓Nat.reduceEqDiff, ↓Nat.reducePow, ↓Nat.reduceLeDiff, ↓Nat.reduceLT, ↓Int.reduceLE, ↓Int.reduceLT, ↓reduceIte, ↓reduceCtorEq]; subst hr
        (refine vd2_q rfl ?_); intro r hr; simp only [hge, ha, hb, go_sem, ↓Nat.reduceBEq, ↓Nat.reduceAdd, ↓Nat.reduceMul, ↓Nat.reduceEqDiff, ↓Nat.reducePow, ↓Nat.reduceLeDiff, ↓Nat.reduceLT, ↓Int.reduceLE, ↓Int.reduceLT, ↓reduceIte, ↓reduceCtorEq]; subst hr
        (first | refine vd2_goq rfl rfl ?_ | refine vd2_no rfl ?_ | refine vd2_skip rfl ?_); intro r hr; simp only [hge, ha, hb, go_sem, ↓Nat.reduceBEq, ↓Nat.reduceAdd, ↓Nat.reduceMul, ↓Nat.reduceEqDiff, ↓Nat.reducePow, ↓Nat.reduceLeDiff, ↓Nat.reduceLT, ↓Int.reduceLE, ↓Int.reduceLT, ↓reduceIte, ↓reduceCtorEq]; subst hr
        (first | refine vd2_goq rfl rfl ?_ | refine vd2_no rfl ?_ | refine vd2_skip rfl ?_); intro r hr; simp only [hge, ha, hb, go_sem, ↓Nat.reduceBEq, ↓Nat.reduceAdd, ↓Nat.reduceMul, ↓Nat.reduceEqDiff, ↓Nat.reducePow, ↓Nat.reduceLeDiff, ↓Nat.reduceLT, ↓Int.reduceLE, ↓Int.reduceLT, ↓reduceIte, ↓reduceCtorEq]; subst hr
        (first | refine vd2_goq rfl rfl ?_ | refine vd2_no rfl ?_ | refine vd2_skip rfl ?_); intro r hr; simp only [hge, ha, hb, go_sem, ↓Nat.reduceBEq, ↓Nat.reduceAdd, ↓Nat.reduceMul, ↓Nat.reduceEqDiff, ↓Nat.reducePow, ↓Nat.reduceLeDiff, ↓Nat.reduceLT, ↓Int.reduceLE, ↓Int.reduceLT, ↓reduceIte, ↓reduceCtorEq]; subst hr
        (first | refine vd2_goq rfl rfl ?_ | refine vd2_no rfl ?_ | refine vd2_skip rfl ?_); intro r hr; simp only [hge, ha, hb, go_sem, ↓Nat.reduceBEq, ↓Nat.reduceAdd, ↓Nat.reduceMul, ↓Nat.reduceEqDiff, ↓Nat.reducePow, ↓Nat.reduceLeDiff, ↓Nat.reduceLT, ↓Int.reduceLE, ↓Int.reduceLT, ↓reduceIte, ↓reduceCtorEq]; subst hr
        (first | refine vd2_goq rfl rfl ?_ | refine vd2_no rfl ?_ | refine vd2_skip rfl ?_); intro r hr; simp only [hge, ha, hb, go_sem, ↓Nat.reduceBEq, ↓Nat.reduceAdd, ↓Nat.reduceMul, ↓Nat.reduceEqDiff, ↓Nat.reducePow, ↓Nat.reduceLeDiff, ↓Nat.reduceLT, ↓Int.reduceLE, ↓Int.reduceLT, ↓reduceIte, ↓reduceCtorEq]; subst hr
        (first | refine vd2_goq rfl rfl ?_ | refine vd2_no rfl ?_ | refine vd2_skip rfl ?_); intro r hr; simp only [hge, ha, hb, go_sem, ↓Nat.reduceBEq, ↓Nat.reduceAdd, ↓Nat.reduceMul, ↓Nat.reduceEqDiff, ↓Nat.reducePow, ↓Nat.reduceLeDiff, ↓Nat.reduceLT, ↓Int.reduceLE, ↓Int.reduceLT, ↓reduceIte, ↓reduceCtorEq]; subst hr
        (first | refine vd2_goq rfl rfl ?_ | refine vd2_no rfl ?_ | refine vd2_skip rfl ?_); intro r hr; simp only [hge, ha, hb, go_sem, ↓Nat.reduceBEq, ↓Nat.reduceAdd, ↓Nat.reduceMul, ↓Nat.reduceEqDiff, ↓Nat.reducePow, ↓Nat.reduceLeDiff, ↓Nat.reduceLT, ↓Int.reduceLE, ↓Int.reduceLT, ↓reduceIte, ↓reduceCtorEq]; subst hr
        (first | refine vd2_goq rfl rfl ?_ | refine vd2_no rfl ?_ | refine vd2_skip rfl ?_); intro r hr; simp only [hge, ha, hb, go_sem, ↓Nat.reduceBEq, ↓Nat.reduceAdd, ↓Nat.reduceMul, ↓Nat.reduceEqDiff, ↓Nat.reducePow, ↓Nat.reduceLeDiff, ↓Nat.reduceLT, ↓Int.reduceLE, ↓Int.reduceLT, ↓reduceIte, ↓reduceCtorEq]; subst hr
        (first | refine vd2_goq rfl rfl ?_ | refine vd2_no rfl ?_ | refine vd2_skip rfl ?_); intro r hr; simp only [hge, ha, hb, go_sem, ↓Nat.reduceBEq, ↓Nat.reduceAdd, ↓Nat.reduceMul, ↓Nat.reduceEqDiff, ↓Nat.reducePow, ↓Nat.reduceLeDiff, ↓Nat.reduceLT, ↓Int.reduceLE, ↓Int.reduceLT, ↓reduceIte, ↓reduceCtorEq]; subst hr
        (first | refine vd2_goq rfl rfl ?_ | refine vd2_no rfl ?_ | refine vd2_skip rfl ?_); intro r hr; simp only [hge, ha, hb, go_sem, ↓Nat.reduceBEq, ↓Nat.reduceAdd, ↓Nat.reduceMul, ↓Nat.reduceEqDiff, ↓Nat.reducePow, ↓Nat.reduceLeDiff, ↓Nat.reduceLT, ↓Int.reduceLE, ↓Int.reduceLT, ↓reduceIte, ↓reduceCtorEq]; subst hr
        (first | refine vd2_goq rfl rfl ?_ | refine vd2_no rfl ?_ | refine vd2_skip rfl ?_); intro r hr; simp only [hge, ha, hb, go_sem, ↓Nat.reduceBEq, ↓Nat.reduceAdd, ↓Nat.reduceMul, ↓Nat.reduceEqDiff, ↓Nat.reducePow, ↓Nat.reduceLeDiff, ↓Nat.reduceLT, ↓Int.reduceLE, ↓Int.reduceLT, ↓reduceIte, ↓reduceCtorEq]; subst hr
        (refine vd2_q rfl ?_); intro r hr; simp only [hge, ha, hb, go_sem, ↓Nat.reduceBEq, ↓Nat.reduceAdd, ↓Nat.reduceMul, ↓Nat.reduceEqDiff, ↓Nat.reducePow, ↓Nat.reduceLeDiff, ↓Nat.reduceLT, ↓Int.reduceLE, ↓Int.reduceLT, ↓reduceIte, ↓reduceCtorEq]; subst hr
        (refine vd2_q rfl ?_); intro r hr; simp only [hge, ha, hb, go_sem, ↓Nat.reduceBEq, ↓Nat.reduceAdd, ↓Nat.reduceMul, ↓Nat.reduceEqDiff, ↓Nat.reducePow, ↓Nat.reduceLeDiff, ↓Nat.reduceLT, ↓Int.reduceLE, ↓Int.reduceLT, ↓reduceIte, ↓reduceCtorEq]; subst hr
        (first | refine vd2_goq rfl rfl ?_ | refine vd2_no rfl ?_ | refine vd2_skip rfl ?_); intro r hr; simp only [hge, ha, hb, go_sem, ↓Nat.reduceBEq, ↓Nat.reduceAdd, ↓Nat.reduceMul, ↓Nat.reduceEqDiff, ↓Nat.reducePow, ↓Nat.reduceLeDiff, ↓Nat.reduceLT, ↓Int.reduceLE, ↓Int.reduceLT, ↓reduceIte, ↓reduceCtorEq]; subst hr
        (first | refine vd2_goq rfl rfl ?_ | refine vd2_no rfl ?_ | refine vd2_skip rfl ?_); intro r hr; simp only [hge, ha, hb, go_sem, ↓Nat.reduceBEq, ↓Nat.reduceAdd, ↓Nat.reduceMul, ↓Nat.reduceEqDiff, ↓Nat.reducePow, ↓Nat.reduceLeDiff, ↓Nat.reduceLT, ↓Int.reduceLE, ↓Int.reduceLT, ↓reduceIte, ↓reduceCtorEq]; subst hr
        (first | refine vd2_goq rfl rfl ?_ | refine vd2_no rfl ?_ | refine vd2_skip rfl ?_); intro r hr; simp only [hge, ha, hb, go_sem, ↓Nat.reduceBEq, ↓Nat.reduceAdd, ↓Nat.reduceMul, ↓Nat.reduceEqDiff, ↓Nat.reducePow, ↓Nat.reduceLeDiff, ↓Nat.reduceLT, ↓Int.reduceLE, ↓Int.reduceLT, ↓reduceIte, ↓reduceCtorEq]; subst hr
        (first | refine vd2_goq rfl rfl ?_ | refine vd2_no rfl ?_ | refine vd2_skip rfl ?_); intro r hr; simp only [hge, ha, hb, go_sem, ↓Nat.reduceBEq, ↓Nat.reduceAdd, ↓Nat.reduceMul, ↓Nat.reduceEqDiff, ↓Nat.reducePow, ↓Nat.reduceLeDiff, ↓Nat.reduceLT, ↓Int.reduceLE, ↓Int.reduceLT, ↓reduceIte, ↓reduceCtorEq]; subst hr
        (first | refine vd2_goq rfl rfl ?_ | refine vd2_no rfl ?_ | refine vd2_skip rfl ?_); intro r hr; simp only [hge, ha, hb, go_sem, ↓Nat.reduceBEq, ↓Nat.reduceAdd, ↓Nat.reduceMul, ↓Nat.reduceEqDiff, ↓Nat.reducePow, ↓Nat.reduceLeDiff, ↓Nat.reduceLT, ↓Int.reduceLE, ↓Int.reduceLT, ↓reduceIte, ↓reduceCtorEq]; subst hr
        (first | refine vd2_goq rfl rfl ?_ | refine vd2_no rfl ?_ | refine vd2_skip rfl ?_); intro r hr; simp only [hge, ha, hb, go_sem, ↓Nat.reduceBEq, ↓Nat.reduceAdd, ↓Nat.reduceMul, ↓Nat.reduceEqDiff, ↓Nat.reducePow, ↓Nat.reduceLeDiff, ↓Nat.reduceLT, ↓Int.reduceLE, ↓Int.reduceLT, ↓reduceIte, ↓reduceCtorEq]; subst hr
        (first | refine vd2_goq rfl rfl ?_ | refine vd2_no rfl ?_ | refine vd2_skip rfl ?_); intro r hr; simp only [hge, ha, hb, go_sem, ↓Nat.reduceBEq, ↓Nat.reduceAdd, ↓Nat.reduceMul, ↓Nat.reduceEqDiff, ↓Nat.reducePow, ↓Nat.reduceLeDiff, ↓Nat.reduceLT, ↓Int.reduceLE, ↓Int.reduceLT, ↓reduceIte, ↓reduceCtorEq]; subst hr
        (first | refine vd2_goq rfl rfl ?_ | refine vd2_no rfl ?_ | refine vd2_skip rfl ?_); intro r hr; simp only [hge, ha, hb, go_sem, ↓Nat.reduceBEq, ↓Nat.reduceAdd, ↓Nat.reduceMul, ↓Nat.reduceEqDiff, ↓Nat.reducePow, ↓Nat.reduceLeDiff, ↓Nat.reduceLT, ↓Int.reduceLE, ↓Int.reduceLT, ↓reduceIte, ↓reduceCtorEq]; subst hr
        (first | refine vd2_goq rfl rfl ?_ | refine vd2_no rfl ?_ | refine vd2_skip rfl ?_); intro r hr; simp only [hge, ha, hb, go_sem, ↓Nat.reduceBEq, ↓Nat.reduceAdd, ↓Nat.reduceMul, ↓Nat.reduceEqDiff, ↓Nat.reducePow, ↓Nat.reduceLeDiff, ↓Nat.reduceLT, ↓Int.reduceLE, ↓Int.reduceLT, ↓reduceIte, ↓reduceCtorEq]; subst hr
        (first | refine vd2_goq rfl rfl ?_ | refine vd2_no rfl ?_ | refine vd2_skip rfl ?_); intro r hr; simp only [hge, ha, hb, go_sem, ↓Nat.reduceBEq, ↓Nat.reduceAdd, ↓Nat.reduceMul, ↓Nat.reduceEqDiff, ↓Nat.reducePow, ↓Nat.reduceLeDiff, ↓Nat.reduceLT, ↓Int.reduceLE, ↓Int.reduceLT, ↓reduceIte, ↓reduceCtorEq]; subst hr
        (first | refine vd2_goq rfl rfl ?_ | refine vd2_no rfl ?_ | refine vd2_skip rfl ?_); intro r hr; simp only [hge, ha, hb, go_sem, ↓Nat.reduceBEq, ↓Nat.reduceAdd, ↓Nat.reduceMul, ↓Nat.reduceEqDiff, ↓Nat.reducePow, ↓Nat.reduceLeDiff, ↓Nat.reduceLT, ↓Int.reduceLE, ↓Int.reduceLT, ↓reduceIte, ↓reduceCtorEq]; subst hr
        (refine vd2_q rfl ?_); intro r hr; simp only [hge, ha, hb, go_sem, ↓Nat.reduceBEq, ↓Nat.reduceAdd, ↓Nat.reduceMul, ↓Nat.reduceEqDiff, ↓Nat.reducePow, ↓Nat.reduceLeDiff, ↓Nat.reduceLT, ↓Int.reduceLE, ↓Int.reduceLT, ↓reduceIte, ↓reduceCtorEq]; subst hr
        (refine vd2_q rfl ?_); intro r hr; simp only [hge, ha, hb, go_sem, ↓Nat.reduceBEq, ↓Nat.reduceAdd, ↓Nat.reduceMul, ↓Nat.reduceEqDiff, ↓Nat.reducePow, ↓Nat.reduceLeDiff, ↓Nat.reduceLT, ↓Int.reduceLE, ↓Int.reduceLT, ↓reduceIte, ↓reduceCtorEq]; subst hr
        (first | refine vd2_goq rfl rfl ?_ | refine vd2_no rfl ?_ | refine vd2_skip rfl ?_); intro r hr; simp only [hge, ha, hb, go_sem, ↓Nat.reduceBEq, ↓Nat.reduceAdd, ↓Nat.reduceMul, ↓Nat.reduceEqDiff, ↓Nat.reducePow, ↓Nat.reduceLeDiff, ↓Nat.reduceLT, ↓Int.reduceLE, ↓Int.reduceLT, ↓reduceIte, ↓reduceCtorEq]; subst hr
        (first | refine vd2_goq rfl rfl ?_ | refine vd2_no rfl ?_ | refine vd2_skip rfl ?_); intro r hr; simp only [hge, ha, hb, go_sem, ↓Nat.reduceBEq, ↓Nat.reduceAdd, ↓Nat.reduceMul, ↓Nat.reduceEqDiff, ↓Nat.reducePow, ↓Nat.reduceLeDiff, ↓Nat.reduceLT, ↓Int.reduceLE, ↓Int.reduceLT, ↓reduceIte, ↓reduceCtorEq]; subst hr
        (first | refine vd2_goq rfl rfl ?_ | refine vd2_no rfl ?_ | refine vd2_skip rfl ?_); intro r hr; simp only [hge, ha, hb, go_sem, ↓Nat.reduceBEq, ↓Nat.reduceAdd, ↓Nat.reduceMul, ↓Nat.reduceEqDiff, ↓Nat.reducePow, ↓Nat.reduceLeDiff, ↓Nat.reduceLT, ↓Int.reduceLE, ↓Int.reduceLT, ↓reduceIte, ↓reduceCtorEq]; subst hr
        (first | refine vd2_goq rfl rfl ?_ | refine vd2_no rfl ?_ | refine vd2_skip rfl ?_); intro r hr; simp only [hge, ha, hb, go_sem, ↓Nat.reduceBEq, ↓Nat.reduceAdd, ↓Nat.reduceMul, ↓Nat.reduceEqDiff, ↓Nat.reducePow, ↓Nat.reduceLeDiff, ↓Nat.reduceLT, ↓Int.reduceLE, ↓Int.reduceLT, ↓reduceIte, ↓reduceCtorEq]; subst hr
        (first | refine vd2_goq rfl rfl ?_ | refine vd2_no rfl ?_ | refine vd2_skip rfl ?_); intro r hr; simp only [hge, ha, hb, go_sem, ↓Nat.reduceBEq, ↓Nat.reduceAdd, ↓Nat.reduceMul, ↓Nat.reduceEqDiff, ↓Nat.reducePow, ↓Nat.reduceLeDiff, ↓Nat.reduceLT, ↓Int.reduceLE, ↓Int.reduceLT, ↓reduceIte, ↓reduceCtorEq]; subst hr
        (first | refine vd2_goq rfl rfl ?_ | refine vd2_no rfl ?_ | refine vd2_skip rfl ?_); intro r hr; simp only [hge, ha, hb, go_sem, ↓Nat.reduceBEq, ↓Nat.reduceAdd, ↓Nat.reduceMul, ↓Nat.reduceEqDiff, ↓Nat.reducePow, ↓Nat.reduceLeDiff, ↓Nat.reduceLT, ↓Int.reduceLE, ↓Int.reduceLT, ↓reduceIte, ↓reduceCtorEq]; subst hr
        (first | refine vd2_goq rfl rfl ?_ | refine vd2_no rfl ?_ | refine vd2_skip rfl ?_); intro r hr; simp only [hge, ha, hb, go_sem, ↓Nat.reduceBEq, ↓Nat.reduceAdd, ↓Nat.reduceMul, ↓Nat.reduceEqDiff, ↓Nat.reducePow, ↓Nat.reduceLeDiff, ↓Nat.reduceLT, ↓Int.reduceLE, ↓Int.reduceLT, ↓reduceIte, ↓reduceCtorEq]; subst hr
        (first | refine vd2_goq rfl rfl ?_ | refine vd2_no rfl ?_ | refine vd2_skip rfl ?_); intro r hr; simp only [hge, ha, hb, go_sem, ↓Nat.reduceBEq, ↓Nat.reduceAdd, ↓Nat.reduceMul, ↓Nat.reduceEqDiff, ↓Nat.reducePow, ↓Nat.reduceLeDiff, ↓Nat.reduceLT, ↓Int.reduceLE, ↓Int.reduceLT, ↓reduceIte, ↓reduceCtorEq]; subst hr
        (first | refine vd2_goq rfl rfl ?_ | refine vd2_no rfl ?_ | refine vd2_skip rfl ?_); intro r hr; simp only [hge, ha, hb, go_sem, ↓Nat.reduceBEq, ↓Nat.reduceAdd, ↓Nat.reduceMul, ↓Nat.reduceEqDiff, ↓Nat.reducePow, ↓Nat.reduceLeDiff, ↓Nat.reduceLT, ↓Int.reduceLE, ↓Int.reduceLT, ↓reduceIte, ↓reduceCtorEq]; subst hr
        (first | refine vd2_goq rfl rfl ?_ | refine vd2_no rfl ?_ | refine vd2_skip rfl ?_); intro r hr; simp only [hge, ha, hb, go_sem, ↓Nat.reduceBEq, ↓Nat.reduceAdd, ↓Nat.reduceMul, ↓Nat.reduceEqDiff, ↓Nat.reducePow, ↓Nat.reduceLeDiff, ↓Nat.reduceLT, ↓Int.reduceLE, ↓Int.reduceLT, ↓reduceIte, ↓reduceCtorEq]; subst hr
        (first | refine vd2_goq rfl rfl ?_ | refine vd2_no rfl ?_ | refine vd2_skip rfl ?_); intro r hr; simp only [hge, ha, hb, go_sem, ↓Nat.reduceBEq, ↓Nat.reduceAdd, ↓Nat.reduceMul, ↓Nat.reduceEqDiff, ↓Nat.reducePow, ↓Nat.reduceLeDiff, ↓Nat.reduceLT, ↓Int.reduceLE, ↓Int.reduceLT, ↓reduceIte, ↓reduceCtorEq]; subst hr
        (first | refine vd2_goq rfl rfl ?_ | refine vd2_no rfl ?_ | refine vd2_skip rfl ?_); intro r hr; simp only [hge, ha, hb, go_sem, ↓Nat.reduceBEq, ↓Nat.reduceAdd, ↓Nat.reduceMul, ↓Nat.reduceEqDiff, ↓Nat.reducePow, ↓Nat.reduceLeDiff, ↓Nat.reduceLT, ↓Int.reduceLE, ↓Int.reduceLT, ↓reduceIte, ↓reduceCtorEq]; subst hr
        (first | refine vd2_goq rfl rfl ?_ | refine vd2_no rfl ?_ | refine vd2_skip rfl ?_); intro r hr; simp only [hge, ha, hb, go_sem, ↓Nat.reduceBEq, ↓Nat.reduceAdd, ↓Nat.reduceMul, ↓Nat.reduceEqDiff, ↓Nat.reducePow, ↓Nat.reduceLeDiff, ↓Nat.reduceLT, ↓Int.reduceLE, ↓Int.reduceLT, ↓reduceIte, ↓reduceCtorEq]; subst hr
        (first | refine vd2_goq rfl rfl ?_ | refine vd2_no rfl ?_ | refine vd2_skip rfl ?_); intro r hr; simp only [hge, ha, hb, go_sem, ↓Nat.reduceBEq, ↓Nat.reduceAdd, ↓Nat.reduceMul, ↓Nat.reduceEqDiff, ↓Nat.reducePow, ↓Nat.reduceLeDiff, ↓Nat.reduceLT, ↓Int.reduceLE, ↓Int.reduceLT, ↓reduceIte, ↓reduceCtorEq]; subst hr
        (first | refine vd2_goq rfl rfl ?_ | refine vd2_no rfl ?_ | refine vd2_skip rfl ?_); intro r hr; simp only [hge, ha, hb, go_sem, ↓Nat.reduceBEq, ↓Nat.reduceAdd, ↓Nat.reduceMul, ↓Nat.reduceEqDiff, ↓Nat.reducePow, ↓Nat.reduceLeDiff, ↓Nat.reduceLT, ↓Int.reduceLE, ↓Int.reduceLT, ↓reduceIte, ↓reduceCtorEq]; subst hr
        (refine vd2_q rfl ?_); intro r hr; simp only [hge, ha, hb, go_sem, ↓Nat.reduceBEq, ↓Nat.reduceAdd, ↓Nat.reduceMul, ↓Nat.reduceEqDiff, ↓Nat.reducePow, ↓Nat.reduceLeDiff, ↓Nat.reduceLT, ↓Int.reduceLE, ↓Int.reduceLT, ↓reduceIte, ↓reduceCtorEq]; subst hr
        (refine vd2_q rfl ?_); intro r hr; simp only [hge, ha, hb, go_sem, ↓Nat.reduceBEq, ↓Nat.reduceAdd, ↓Nat.reduceMul, ↓Nat.reduceEqDiff, ↓Nat.reducePow, ↓Nat.reduceLeDiff, ↓Nat.reduceLT, ↓Int.reduceLE, ↓Int.reduceLT, ↓reduceIte, ↓reduceCtorEq]; subst hr
        (first | refine vd2_goq rfl rfl ?_ | refine vd2_no rfl ?_ | refine vd2_skip rfl ?_); intro r hr; simp only [hge, ha, hb, go_sem, ↓Nat.reduceBEq, ↓Nat.reduceAdd, ↓Nat.reduceMul, ↓Nat.reduceEqDiff, ↓Nat.reducePow, ↓Nat.reduceLeDiff, ↓Nat.reduceLT, ↓Int.reduceLE, ↓Int.reduceLT, ↓reduceIte, ↓reduceCtorEq]; subst hr
        (first | refine vd2_goq rfl rfl ?_ | refine vd2_no rfl ?_ | refine vd2_skip rfl ?_); intro r hr; simp only [hge, ha, hb, go_sem, ↓Nat.reduceBEq, ↓Nat.reduceAdd, ↓Nat.reduceMul, ↓Nat.reduceEqDiff, ↓Nat.reducePow, ↓Nat.reduceLeDiff, ↓Nat.reduceLT, ↓Int.reduceLE, ↓Int.reduceLT, ↓reduceIte, ↓reduceCtorEq]; subst hr
        (first | refine vd2_goq rfl rfl ?_ | refine vd2_no rfl ?_ | refine vd2_skip rfl ?_); intro r hr; simp only [hge, ha, hb, go_sem, ↓Nat.reduceBEq, ↓Nat.reduceAdd, ↓Nat.reduceMul, ↓Nat.reduceEqDiff, ↓Nat.reducePow, ↓Nat.reduceLeDiff, ↓Nat.reduceLT, ↓Int.reduceLE, ↓Int.reduceLT, ↓reduceIte, ↓reduceCtorEq]; subst hr
        (first | refine vd2_goq rfl rfl ?_ | refine vd2_no rfl ?_ | refine vd2_skip rfl ?_); intro r hr; simp only [hge, ha, hb, go_sem, ↓Nat.reduceBEq, ↓Nat.reduceAdd, ↓Nat.reduceMul, ↓Nat.reduceEqDiff, ↓Nat.reducePow, ↓Nat.reduceLeDiff, ↓Nat.reduceLT, ↓Int.reduceLE, ↓Int.reduceLT, ↓reduceIte, ↓reduceCtorEq]; subst hr
        (first | refine vd2_goq rfl rfl ?_ | refine vd2_no rfl ?_ | refine vd2_skip rfl ?_); intro r hr; simp only [hge, ha, hb, go_sem, ↓Nat.reduceBEq, ↓Nat.reduceAdd, ↓Nat.reduceMul, ↓Nat.reduceEqDiff, ↓Nat.reducePow, ↓Nat.reduceLeDiff, ↓Nat.reduceLT, ↓Int.reduceLE, ↓Int.reduceLT, ↓reduceIte, ↓reduceCtorEq]; subst hr
        (first | refine vd2_goq rfl rfl ?_ | refine vd2_no rfl ?_ | refine vd2_skip rfl ?_); intro r hr; simp only [hge, ha, hb, go_sem, ↓Nat.reduceBEq, ↓Nat.reduceAdd, ↓Nat.reduceMul, ↓Nat.reduceEqDiff, ↓Nat.reducePow, ↓Nat.reduceLeDiff, ↓Nat.reduceLT, ↓Int.reduceLE, ↓Int.reduceLT, ↓reduceIte, ↓reduceCtorEq]; subst hr
        (first | refine vd2_goq rfl rfl ?_ | refine vd2_no rfl ?_ | refine vd2_skip rfl ?_); intro r hr; simp only [hge, ha, hb, go_sem, ↓Nat.reduceBEq, ↓Nat.reduceAdd, ↓Nat.reduceMul, ↓Nat.reduceEqDiff, ↓Nat.reducePow, ↓Nat.reduceLeDiff, ↓Nat.reduceLT, ↓Int.reduceLE, ↓Int.reduceLT, ↓reduceIte, ↓reduceCtorEq]; subst hr
        (first | refine vd2_goq rfl rfl ?_ | refine vd2_no rfl ?_ | refine vd2_skip rfl ?_); intro r hr; simp only [hge, ha, hb, go_sem, ↓Nat.reduceBEq, ↓Nat.reduceAdd, ↓Nat.reduceMul, ↓Nat.reduceEqDiff, ↓Nat.reducePow, ↓Nat.reduceLeDiff, ↓Nat.reduceLT, ↓Int.reduceLE, ↓Int.reduceLT, ↓reduceIte, ↓reduceCtorEq]; subst hr
        (first | refine vd2_goq rfl rfl ?_ | refine vd2_no rfl ?_ | refine vd2_skip rfl ?_); intro r hr; simp only [hge, ha, hb, go_sem, ↓Nat.reduceBEq, ↓Nat.reduceAdd, ↓Nat.reduceMul, ↓Nat.reduceEqDiff, ↓Nat.reducePow, ↓Nat.reduceLeDiff, ↓Nat.reduceLT, ↓Int.reduceLE, ↓Int.reduceLT, ↓reduceIte, ↓reduceCtorEq]; subst hr
        (first | refine vd2_goq rfl rfl ?_ | refine vd2_no rfl ?_ | refine vd2_skip rfl ?_); intro r hr; simp only [hge, ha, hb, go_sem, ↓Nat.reduceBEq, ↓Nat.reduceAdd, ↓Nat.reduceMul, ↓Nat.reduceEqDiff, ↓Nat.reducePow, ↓Nat.reduceLeDiff, ↓Nat.reduceLT, ↓Int.reduceLE, ↓Int.reduceLT, ↓reduceIte, ↓reduceCtorEq]; subst hr
        (first | refine vd2_goq rfl rfl ?_ | refine vd2_no rfl ?_ | refine vd2_skip rfl ?_); intro r hr; simp only [hge, ha, hb, go_sem, ↓Nat.reduceBEq, ↓Nat.reduceAdd, ↓Nat.reduceMul, ↓Nat.reduceEqDiff, ↓Nat.reducePow, ↓Nat.reduceLeDiff, ↓Nat.reduceLT, ↓Int.reduceLE, ↓Int.reduceLT, ↓reduceIte, ↓reduceCtorEq]; subst hr
        (first | refine vd2_goq rfl rfl ?_ | refine vd2_no rfl ?_ | refine vd2_skip rfl ?_); intro r hr; simp only [hge, ha, hb, go_sem, ↓Nat.reduceBEq, ↓Nat.reduceAdd, ↓Nat.reduceMul, ↓Nat.reduceEqDiff, ↓Nat.reducePow, ↓Nat.reduceLeDiff, ↓Nat.reduceLT, ↓Int.reduceLE, ↓Int.reduceLT, ↓reduceIte, ↓reduceCtorEq]; subst hr
        (first | refine vd2_goq rfl rfl ?_ | refine vd2_no rfl ?_ | refine vd2_skip rfl ?_); intro r hr; simp only [hge, ha, hb, go_sem, ↓Nat.reduceBEq, ↓Nat.reduceAdd, ↓Nat.reduceMul, ↓Nat.reduceEqDiff, ↓Nat.reducePow, ↓Nat.reduceLeDiff, ↓Nat.reduceLT, ↓Int.reduceLE, ↓Int.reduceLT, ↓reduceIte, ↓reduceCtorEq]; subst hr
        (first | refine vd2_goq rfl rfl ?_ | refine vd2_no rfl ?_ | refine vd2_skip rfl ?_); intro r hr; simp only [hge, ha, hb, go_sem, ↓Nat.reduceBEq, ↓Nat.reduceAdd, ↓Nat.reduceMul, ↓Nat.reduceEqDiff, ↓Nat.reducePow, ↓Nat.reduceLeDiff, ↓Nat.reduceLT, ↓Int.reduceLE, ↓Int.reduceLT, ↓reduceIte, ↓reduceCtorEq]; subst hr
        (first | refine vd2_goq rfl rfl ?_ | refine vd2_no rfl ?_ | refine vd2_skip rfl ?_); intro r hr; simp only [hge, ha, hb, go_sem, ↓Nat.reduceBEq, ↓Nat.reduceAdd, ↓Nat.reduceMul, ↓Nat.reduceEqDiff, ↓Nat.reducePow, ↓Nat.reduceLeDiff, ↓Nat.reduceLT, ↓Int.reduceLE, ↓Int.reduceLT, ↓reduceIte, ↓reduceCtorEq]; subst hr
        (first | refine vd2_goq rfl rfl ?_ | refine vd2_no rfl ?_ | refine vd2_skip rfl ?_); intro r hr; simp only [hge, ha, hb, go_sem, ↓Nat.reduceBEq, ↓Nat.reduceAdd, ↓Nat.reduceMul, ↓Nat.reduceEqDiff, ↓Nat.reducePow, ↓Nat.reduceLeDiff, ↓Nat.reduceLT, ↓Int.reduceLE, ↓Int.reduceLT, ↓reduceIte, ↓reduceCtorEq]; subst hr
        (first | refine vd2_goq rfl rfl ?_ | refine vd2_no rfl ?_ | refine vd2_skip rfl ?_); intro r hr; simp only [hge, ha, hb, go_sem, ↓Nat.reduceBEq, ↓Nat.reduceAdd, ↓Nat.reduceMul, ↓Nat.reduceEqDiff, ↓Nat.reducePow, ↓Nat.reduceLeDiff, ↓Nat.reduceLT, ↓Int.reduceLE, ↓Int.reduceLT, ↓reduceIte, ↓reduceCtorEq]; subst hr
        (refine vd2_q rfl ?_); intro r hr; simp only [hge, ha, hb, go_sem, ↓Nat.reduceBEq, ↓Nat.reduceAdd, ↓Nat.reduceMul, ↓Nat.reduceEqDiff, ↓Nat.reducePow, ↓Nat.reduceLeDiff, ↓Nat.reduceLT, ↓Int.reduceLE, ↓Int.reduceLT, ↓reduceIte, ↓reduceCtorEq]; subst hr
        exact hQ
        refine Tr.cond rfl (fun h => by cases h) (fun h => ?_)
        refine Tr.skip ?_
        try simp only [blockK, thenK, ↓reduceIte]
        refine tr_region (by rw [hE]; rfl) ?_
        repeat (refine vc_op rfl ?_; simp only [hw, go_sem, ↓Nat.reduceBEq, ↓Nat.reduceAdd, ↓Nat.reduceMul, ↓Nat.reduceEqDiff, ↓Nat.reducePow, ↓Nat.reduceLeDiff, ↓Nat.reduceLT, ↓Int.reduceLE, ↓Int.reduceLT, ↓reduceIte, ↓reduceCtorEq])
        refine vc_nil ?_
        try simp only [blockK, thenK, ↓reduceIte]
        refine ⟨i + 1, hlt, by omega, ?_⟩
        refine wk_ren (fun n => n) ?_ ?_ rfl rfl rfl
        · repeat' (first | exact rfl | exact trivial | constructor)
        · repeat' (first | exact rfl | exact trivial | constructor)
    · refine Tr.exit ?_
      try simp only [blockK, thenK, ↓reduceIte]
      first | refine tr_seq_region (by rw [hE]; rfl) ?_ | (refine Tr.seq ?_; refine tr_seq_region (by rw [hE]; rfl) ?_)
      repeat (refine vc_op rfl ?_; simp only [go_sem, ↓Nat.reduceBEq, ↓Nat.reduceAdd, ↓Nat.reduceMul, ↓Nat.reduceEqDiff, ↓Nat.reducePow, ↓Nat.reduceLeDiff, ↓Nat.reduceLT, ↓Int.reduceLE, ↓Int.reduceLT, ↓reduceIte, ↓reduceCtorEq])
      refine call_fn rfl rfl rfl rfl (enters_of Try.func23 (by kernel_rfl) rfl) (LWho_pure l s t (by omega)) rfl rfl rfl ?_
      simp only [go_sem, ↓Nat.reduceBEq, ↓Nat.reduceAdd, ↓Nat.reduceMul, ↓Nat.reduceEqDiff, ↓Nat.reducePow, ↓Nat.reduceLeDiff, ↓Nat.reduceLT, ↓Int.reduceLE, ↓Int.reduceLT, ↓reduceIte, ↓reduceCtorEq]
      repeat (refine vc_op rfl ?_; simp only [go_sem, ↓Nat.reduceBEq, ↓Nat.reduceAdd, ↓Nat.reduceMul, ↓Nat.reduceEqDiff, ↓Nat.reducePow, ↓Nat.reduceLeDiff, ↓Nat.reduceLT, ↓Int.reduceLE, ↓Int.reduceLT, ↓reduceIte, ↓reduceCtorEq])
      refine vc_nil ?_
      have hw2 : IntKind.i64.wrap ((l.length : Int) + 1) = ((l.length + 1 : Nat) : Int) := wrap_next (by omega)
      have hle2 : decide ((M.length : Int) ≤ ((l.length + 1 : Nat) : Int)) = true := decide_eq_true (by omega)
      first | apply tr_m (by rw [hE]; rfl) | (refine Tr.seq ?_; apply tr_m (by rw [hE]; rfl))
      intro Q hQ
      simp only [List.toList_toArray, List.map_cons, List.map_nil, mo, guardSlot, Option.map_some, Option.map_none, List.getElem?_toArray, List.getElem?_cons_succ, List.getElem?_cons_zero, Option.bind_some]
      (refine vm_op ?_); intro r hr; simp only [go_sem, ↓Nat.reduceBEq, ↓Nat.reduceAdd, ↓Nat.reduceMul, ↓Nat.reduceEqDiff, ↓Nat.reducePow, ↓Nat.reduceLeDiff, ↓Nat.reduceLT, ↓Int.reduceLE, ↓Int.reduceLT, ↓reduceIte, ↓reduceCtorEq]; subst hr
      (refine vm_op ?_); intro r hr; simp only [go_sem, ↓Nat.reduceBEq, ↓Nat.reduceAdd, ↓Nat.reduceMul, ↓Nat.reduceEqDiff, ↓Nat.reducePow, ↓Nat.reduceLeDiff, ↓Nat.reduceLT, ↓Int.reduceLE, ↓Int.reduceLT, ↓reduceIte, ↓reduceCtorEq]; subst hr
      (refine vm_op ?_); intro r hr; simp only [go_sem, ↓Nat.reduceBEq, ↓Nat.reduceAdd, ↓Nat.reduceMul, ↓Nat.reduceEqDiff, ↓Nat.reducePow, ↓Nat.reduceLeDiff, ↓Nat.reduceLT, ↓Int.reduceLE, ↓Int.reduceLT, ↓reduceIte, ↓reduceCtorEq]; subst hr
      (first | refine vm_if rfl ?_ | refine vm_no rfl ?_ | refine vm_skip rfl ?_); intro r hr; simp only [go_sem, ↓Nat.reduceBEq, ↓Nat.reduceAdd, ↓Nat.reduceMul, ↓Nat.reduceEqDiff, ↓Nat.reducePow, ↓Nat.reduceLeDiff, ↓Nat.reduceLT, ↓Int.reduceLE, ↓Int.reduceLT, ↓reduceIte, ↓reduceCtorEq]; subst hr
      (first | refine vm_if rfl ?_ | refine vm_no rfl ?_ | refine vm_skip rfl ?_); intro r hr; simp only [go_sem, ↓Nat.reduceBEq, ↓Nat.reduceAdd, ↓Nat.reduceMul, ↓Nat.reduceEqDiff, ↓Nat.reducePow, ↓Nat.reduceLeDiff, ↓Nat.reduceLT, ↓Int.reduceLE, ↓Int.reduceLT, ↓reduceIte, ↓reduceCtorEq]; subst hr
      (first | refine vm_if rfl ?_ | refine vm_no rfl ?_ | refine vm_skip rfl ?_); intro r hr; simp only [go_sem, ↓Nat.reduceBEq, ↓Nat.reduceAdd, ↓Nat.reduceMul, ↓Nat.reduceEqDiff, ↓Nat.reducePow, ↓Nat.reduceLeDiff, ↓Nat.reduceLT, ↓Int.reduceLE, ↓Int.reduceLT, ↓reduceIte, ↓reduceCtorEq]
      refine call_fn rfl rfl rfl rfl (enters_of Try.func22 (by kernel_rfl) rfl) (LSame_pure M M (by omega)) rfl rfl rfl ?_
      simp only [go_sem, ↓Nat.reduceBEq, ↓Nat.reduceAdd, ↓Nat.reduceMul, ↓Nat.reduceEqDiff, ↓Nat.reducePow, ↓Nat.reduceLeDiff, ↓Nat.reduceLT, ↓Int.reduceLE, ↓Int.reduceLT, ↓reduceIte, ↓reduceCtorEq]
      subst hr
      (refine vm_op ?_); intro r hr; simp only [go_sem, ↓Nat.reduceBEq, ↓Nat.reduceAdd, ↓Nat.reduceMul, ↓Nat.reduceEqDiff, ↓Nat.reducePow, ↓Nat.reduceLeDiff, ↓Nat.reduceLT, ↓Int.reduceLE, ↓Int.reduceLT, ↓reduceIte, ↓reduceCtorEq]; subst hr
      (refine vm_op ?_); intro r hr; simp only [go_sem, ↓Nat.reduceBEq, ↓Nat.reduceAdd, ↓Nat.reduceMul, ↓Nat.reduceEqDiff, ↓Nat.reducePow, ↓Nat.reduceLeDiff, ↓Nat.reduceLT, ↓Int.reduceLE, ↓Int.reduceLT, ↓reduceIte, ↓reduceCtorEq]; subst hr
      (first | refine vm_if rfl ?_ | refine vm_no rfl ?_ | refine vm_skip rfl ?_); intro r hr; simp only [go_sem, ↓Nat.reduceBEq, ↓Nat.reduceAdd, ↓Nat.reduceMul, ↓Nat.reduceEqDiff, ↓Nat.reducePow, ↓Nat.reduceLeDiff, ↓Nat.reduceLT, ↓Int.reduceLE, ↓Int.reduceLT, ↓reduceIte, ↓reduceCtorEq]; subst hr
      (first | refine vm_if rfl ?_ | refine vm_no rfl ?_ | refine vm_skip rfl ?_); intro r hr; simp only [go_sem, ↓Nat.reduceBEq, ↓Nat.reduceAdd, ↓Nat.reduceMul, ↓Nat.reduceEqDiff, ↓Nat.reducePow, ↓Nat.reduceLeDiff, ↓Nat.reduceLT, ↓Int.reduceLE, ↓Int.reduceLT, ↓reduceIte, ↓reduceCtorEq]
      refine call_fn rfl rfl rfl rfl (enters_of Try.func21 (by kernel_rfl) rfl) (LMay_pure M) rfl rfl rfl ?_
      simp only [go_sem, ↓Nat.reduceBEq, ↓Nat.reduceAdd, ↓Nat.reduceMul, ↓Nat.reduceEqDiff, ↓Nat.reducePow, ↓Nat.reduceLeDiff, ↓Nat.reduceLT, ↓Int.reduceLE, ↓Int.reduceLT, ↓reduceIte, ↓reduceCtorEq]
      rw [hM]
      subst hr
      (refine vm_op ?_); intro r hr; simp only [go_sem, ↓Nat.reduceBEq, ↓Nat.reduceAdd, ↓Nat.reduceMul, ↓Nat.reduceEqDiff, ↓Nat.reducePow, ↓Nat.reduceLeDiff, ↓Nat.reduceLT, ↓Int.reduceLE, ↓Int.reduceLT, ↓reduceIte, ↓reduceCtorEq]; subst hr
      (refine vm_op ?_); intro r hr; simp only [go_sem, ↓Nat.reduceBEq, ↓Nat.reduceAdd, ↓Nat.reduceMul, ↓Nat.reduceEqDiff, ↓Nat.reducePow, ↓Nat.reduceLeDiff, ↓Nat.reduceLT, ↓Int.reduceLE, ↓Int.reduceLT, ↓reduceIte, ↓reduceCtorEq]; subst hr
      (first | refine vm_if rfl ?_ | refine vm_no rfl ?_ | refine vm_skip rfl ?_); intro r hr; simp only [go_sem, ↓Nat.reduceBEq, ↓Nat.reduceAdd, ↓Nat.reduceMul, ↓Nat.reduceEqDiff, ↓Nat.reducePow, ↓Nat.reduceLeDiff, ↓Nat.reduceLT, ↓Int.reduceLE, ↓Int.reduceLT, ↓reduceIte, ↓reduceCtorEq]; subst hr
      (first | refine vm_if rfl ?_ | refine vm_no rfl ?_ | refine vm_skip rfl ?_); intro r hr; simp only [go_sem, ↓Nat.reduceBEq, ↓Nat.reduceAdd, ↓Nat.reduceMul, ↓Nat.reduceEqDiff, ↓Nat.reducePow, ↓Nat.reduceLeDiff, ↓Nat.reduceLT, ↓Int.reduceLE, ↓Int.reduceLT, ↓reduceIte, ↓reduceCtorEq]; subst hr
      (first | refine vm_if rfl ?_ | refine vm_no rfl ?_ | refine vm_skip rfl ?_); intro r hr; simp only [go_sem, ↓Nat.reduceBEq, ↓Nat.reduceAdd, ↓Nat.reduceMul, ↓Nat.reduceEqDiff, ↓Nat.reducePow, ↓Nat.reduceLeDiff, ↓Nat.reduceLT, ↓Int.reduceLE, ↓Int.reduceLT, ↓reduceIte, ↓reduceCtorEq]; subst hr
      (first | refine vm_if rfl ?_ | refine vm_no rfl ?_ | refine vm_skip rfl ?_); intro r hr; simp only [go_sem, ↓Nat.reduceBEq, ↓Nat.reduceAdd, ↓Nat.reduceMul, ↓Nat.reduceEqDiff, ↓Nat.reducePow, ↓Nat.reduceLeDiff, ↓Nat.reduceLT, ↓Int.reduceLE, ↓Int.reduceLT, ↓reduceIte, ↓reduceCtorEq]
      refine call_fn rfl rfl rfl rfl (enters_of Try.func23 (by kernel_rfl) rfl) (LWho_pure M s t (by omega)) rfl rfl rfl ?_
      simp only [go_sem, ↓Nat.reduceBEq, ↓Nat.reduceAdd, ↓Nat.reduceMul, ↓Nat.reduceEqDiff, ↓Nat.reducePow, ↓Nat.reduceLeDiff, ↓Nat.reduceLT, ↓Int.reduceLE, ↓Int.reduceLT, ↓reduceIte, ↓reduceCtorEq]
      rw [hwho]
      subst hr
      (first | refine vm_if rfl ?_ | refine vm_no rfl ?_ | refine vm_skip rfl ?_); intro r hr; simp only [go_sem, ↓Nat.reduceBEq, ↓Nat.reduceAdd, ↓Nat.reduceMul, ↓Nat.reduceEqDiff, ↓Nat.reducePow, ↓Nat.reduceLeDiff, ↓Nat.reduceLT, ↓Int.reduceLE, ↓Int.reduceLT, ↓reduceIte, ↓reduceCtorEq]; subst hr
      (first | refine vm_if rfl ?_ | refine vm_no rfl ?_ | refine vm_skip rfl ?_); intro r hr; simp only [go_sem, ↓Nat.reduceBEq, ↓Nat.reduceAdd, ↓Nat.reduceMul, ↓Nat.reduceEqDiff, ↓Nat.reducePow, ↓Nat.reduceLeDiff, ↓Nat.reduceLT, ↓Int.reduceLE, ↓Int.reduceLT, ↓reduceIte, ↓reduceCtorEq]; subst hr
      (first | refine vm_if rfl ?_ | refine vm_no rfl ?_ | refine vm_skip rfl ?_); intro r hr; simp only [go_sem, ↓Nat.reduceBEq, ↓Nat.reduceAdd, ↓Nat.reduceMul, ↓Nat.reduceEqDiff, ↓Nat.reducePow, ↓Nat.reduceLeDiff, ↓Nat.reduceLT, ↓Int.reduceLE, ↓Int.reduceLT, ↓reduceIte, ↓reduceCtorEq]
      refine call_fn rfl rfl rfl rfl (enters_of Try.func27 (by kernel_rfl) rfl) (bit_pure v) rfl rfl rfl ?_
      simp only [go_sem, ↓Nat.reduceBEq, ↓Nat.reduceAdd, ↓Nat.reduceMul, ↓Nat.reduceEqDiff, ↓Nat.reducePow, ↓Nat.reduceLeDiff, ↓Nat.reduceLT, ↓Int.reduceLE, ↓Int.reduceLT, ↓reduceIte, ↓reduceCtorEq]
      rw [hbt]
      subst hr
      (first | refine vm_if rfl ?_ | refine vm_no rfl ?_ | refine vm_skip rfl ?_); intro r hr; simp only [hw2, hle2, orU, go_sem, ↓Nat.reduceBEq, ↓Nat.reduceAdd, ↓Nat.reduceMul, ↓Nat.reduceEqDiff, ↓Nat.reducePow, ↓Nat.reduceLeDiff, ↓Nat.reduceLT, ↓Int.reduceLE, ↓Int.reduceLT, ↓reduceIte, ↓reduceCtorEq]; subst hr
      (first | refine vm_if rfl ?_ | refine vm_no rfl ?_ | refine vm_skip rfl ?_); intro r hr; simp only [hw2, hle2, orU, go_sem, ↓Nat.reduceBEq, ↓Nat.reduceAdd, ↓Nat.reduceMul, ↓Nat.reduceEqDiff, ↓Nat.reducePow, ↓Nat.reduceLeDiff, ↓Nat.reduceLT, ↓Int.reduceLE, ↓Int.reduceLT, ↓reduceIte, ↓reduceCtorEq]; subst hr
      (refine vm_op ?_); intro r hr; simp only [hw2, hle2, orU, go_sem, ↓Nat.reduceBEq, ↓Nat.reduceAdd, ↓Nat.reduceMul, ↓Nat.reduceEqDiff, ↓Nat.reducePow, ↓Nat.reduceLeDiff, ↓Nat.reduceLT, ↓Int.reduceLE, ↓Int.reduceLT, ↓reduceIte, ↓reduceCtorEq]; subst hr
      (refine vm_op ?_); intro r hr; simp only [hw2, hle2, orU, go_sem, ↓Nat.reduceBEq, ↓Nat.reduceAdd, ↓Nat.reduceMul, ↓Nat.reduceEqDiff, ↓Nat.reducePow, ↓Nat.reduceLeDiff, ↓Nat.reduceLT, ↓Int.reduceLE, ↓Int.reduceLT, ↓reduceIte, ↓reduceCtorEq]; subst hr
      (first | refine vm_if rfl ?_ | refine vm_no rfl ?_ | refine vm_skip rfl ?_); intro r hr; simp only [hw2, hle2, orU, go_sem, ↓Nat.reduceBEq, ↓Nat.reduceAdd, ↓Nat.reduceMul, ↓Nat.reduceEqDiff, ↓Nat.reducePow, ↓Nat.reduceLeDiff, ↓Nat.reduceLT, ↓Int.reduceLE, ↓Int.reduceLT, ↓reduceIte, ↓reduceCtorEq]; subst hr
      (first | refine vm_if rfl ?_ | refine vm_no rfl ?_ | refine vm_skip rfl ?_); intro r hr; simp only [hw2, hle2, orU, go_sem, ↓Nat.reduceBEq, ↓Nat.reduceAdd, ↓Nat.reduceMul, ↓Nat.reduceEqDiff, ↓Nat.reducePow, ↓Nat.reduceLeDiff, ↓Nat.reduceLT, ↓Int.reduceLE, ↓Int.reduceLT, ↓reduceIte, ↓reduceCtorEq]; subst hr
      (first | refine vm_if rfl ?_ | refine vm_no rfl ?_ | refine vm_skip rfl ?_); intro r hr; simp only [hw2, hle2, orU, go_sem, ↓Nat.reduceBEq, ↓Nat.reduceAdd, ↓Nat.reduceMul, ↓Nat.reduceEqDiff, ↓Nat.reducePow, ↓Nat.reduceLeDiff, ↓Nat.reduceLT, ↓Int.reduceLE, ↓Int.reduceLT, ↓reduceIte, ↓reduceCtorEq]; subst hr
      (first | refine vm_if rfl ?_ | refine vm_no rfl ?_ | refine vm_skip rfl ?_); intro r hr; simp only [hw2, hle2, orU, go_sem, ↓Nat.reduceBEq, ↓Nat.reduceAdd, ↓Nat.reduceMul, ↓Nat.reduceEqDiff, ↓Nat.reducePow, ↓Nat.reduceLeDiff, ↓Nat.reduceLT, ↓Int.reduceLE, ↓Int.reduceLT, ↓reduceIte, ↓reduceCtorEq]; subst hr
      (first | refine vm_if rfl ?_ | refine vm_no rfl ?_ | refine vm_skip rfl ?_); intro r hr; simp only [hw2, hle2, orU, go_sem, ↓Nat.reduceBEq, ↓Nat.reduceAdd, ↓Nat.reduceMul, ↓Nat.reduceEqDiff, ↓Nat.reducePow, ↓Nat.reduceLeDiff, ↓Nat.reduceLT, ↓Int.reduceLE, ↓Int.reduceLT, ↓reduceIte, ↓reduceCtorEq]; subst hr
      (first | refine vm_if rfl ?_ | refine vm_no rfl ?_ | refine vm_skip rfl ?_); intro r hr; simp only [hw2, hle2, orU, go_sem, ↓Nat.reduceBEq, ↓Nat.reduceAdd, ↓Nat.reduceMul, ↓Nat.reduceEqDiff, ↓Nat.reducePow, ↓Nat.reduceLeDiff, ↓Nat.reduceLT, ↓Int.reduceLE, ↓Int.reduceLT, ↓reduceIte, ↓reduceCtorEq]; subst hr
      (refine vm_op ?_); intro r hr; simp only [hw2, hle2, orU, go_sem, ↓Nat.reduceBEq, ↓Nat.reduceAdd, ↓Nat.reduceMul, ↓Nat.reduceEqDiff, ↓Nat.reducePow, ↓Nat.reduceLeDiff, ↓Nat.reduceLT, ↓Int.reduceLE, ↓Int.reduceLT, ↓reduceIte, ↓reduceCtorEq]; subst hr
      (refine vm_op ?_); intro r hr; simp only [hw2, hle2, orU, go_sem, ↓Nat.reduceBEq, ↓Nat.reduceAdd, ↓Nat.reduceMul, ↓Nat.reduceEqDiff, ↓Nat.reducePow, ↓Nat.reduceLeDiff, ↓Nat.reduceLT, ↓Int.reduceLE, ↓Int.reduceLT, ↓reduceIte, ↓reduceCtorEq]; subst hr
      exact hQ
      refine Tr.ret ?_
      simp only [Try.f4, go_sem, ↓Nat.reduceBEq, ↓Nat.reduceAdd, ↓Nat.reduceMul, ↓Nat.reduceEqDiff, ↓Nat.reducePow, ↓Nat.reduceLeDiff, ↓Nat.reduceLT, ↓Int.reduceLE, ↓Int.reduceLT, ↓reduceIte, ↓reduceCtorEq]

theorem LinkPut_pure (l : List Link) (s t : Check) (v : Int) (hw : ∀ a ∈ l, 0 ≤ a.mask) : Pure Try.prog 4 [links l, s.av, t.av, .int .i64 v] (.bool true) := by
  by_cases hm : lmayB l = true
  · have hl := (may_spec hm).1
    by_cases hE0 : lputE l s t v = 0
    · have hv : 0 ≤ v ∧ v < 8 := by
        apply Classical.byContradiction
        intro h
        have : v < 0 ∨ 8 ≤ v := by omega
        simp [lputE, hm, this] at hE0
      obtain ⟨n, rfl⟩ : ∃ n : Nat, v = n := ⟨v.toNat, by omega⟩
      obtain ⟨h1, h2, h3, h4, h5, h6⟩ := put_out (by omega) hw hm hE0
      exact LinkPut_main l _ s t n _ rfl hm hl hE0 rfl h1 h2 h3 h4 h5 h6
    · exact LinkPut_err l s t v hm hl hE0
  · exact LinkPut_not l s t v (by simpa using hm)
