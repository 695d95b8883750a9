/- LinkTurned: the law of the given program. -/
import Derived.Test.YtjahbgcdplngcaaLkH
import Derived.Test.YtjahbgcdplngcaaLkK
set_option linter.unusedSimpArgs false
namespace Go.Proofs.Ytjahbgcdplngcaa
open Go Go.Ab

theorem LinkTurned_early (l : List Link) (h : 40 < l.length) : Pure Try.prog 7 [links l] (.bool true) := by
  have hl : decide ((40 : Int) < l.length) = true := decide_eq_true (by omega)
  unfold links
  refine pure_of_tr Try.func7 rfl (Nat.le_of_ble_eq_true rfl) rfl fun E hE => ?_
  first | refine tr_seq_region (by rw [hE]; rfl) ?_ | (refine Tr.seq ?_; refine tr_seq_region (by rw [hE]; rfl) ?_)
  repeat (refine vc_op rfl ?_; simp only [go_sem, ↓Nat.reduceBEq, ↓Nat.reduceAdd, ↓Nat.reduceMul, ↓Nat.reduceEqDiff, ↓Nat.reducePow, ↓Nat.reduceLeDiff, ↓Nat.reduceLT, ↓Int.reduceLE, ↓Int.reduceLT, ↓reduceIte, ↓reduceCtorEq])
  refine vc_nil ?_
  first | refine tr_seq_region (by rw [hE]; rfl) ?_ | (refine Tr.seq ?_; refine tr_seq_region (by rw [hE]; rfl) ?_)
  repeat (refine vc_op rfl ?_; simp only [go_sem, ↓Nat.reduceBEq, ↓Nat.reduceAdd, ↓Nat.reduceMul, ↓Nat.reduceEqDiff, ↓Nat.reducePow, ↓Nat.reduceLeDiff, ↓Nat.reduceLT, ↓Int.reduceLE, ↓Int.reduceLT, ↓reduceIte, ↓reduceCtorEq])
  refine call_fn rfl rfl rfl rfl (enters_of Try.func14 (by kernel_rfl) rfl) (lawake_pure) rfl rfl rfl ?_
  simp only [go_sem, ↓Nat.reduceBEq, ↓Nat.reduceAdd, ↓Nat.reduceMul, ↓Nat.reduceEqDiff, ↓Nat.reducePow, ↓Nat.reduceLeDiff, ↓Nat.reduceLT, ↓Int.reduceLE, ↓Int.reduceLT, ↓reduceIte, ↓reduceCtorEq]
  repeat (refine vc_op rfl ?_; simp only [go_sem, ↓Nat.reduceBEq, ↓Nat.reduceAdd, ↓Nat.reduceMul, ↓Nat.reduceEqDiff, ↓Nat.reducePow, ↓Nat.reduceLeDiff, ↓Nat.reduceLT, ↓Int.reduceLE, ↓Int.reduceLT, ↓reduceIte, ↓reduceCtorEq])
  refine vc_nil ?_
  refine Tr.seq ?_
  first | apply tr_m (by rw [hE]; rfl) | (refine Tr.seq ?_; apply tr_m (by rw [hE]; rfl))
  intro Q hQ
  simp only [List.toList_toArray, List.map_cons, List.map_nil, mo, guardSlot, Option.map_some, Option.map_none, List.getElem?_toArray, List.getElem?_cons_succ, List.getElem?_cons_zero, Option.bind_some]
  (refine vm_op ?_); intro r hr; simp only [hl, go_sem, ↓Nat.reduceBEq, ↓Nat.reduceAdd, ↓Nat.reduceMul, ↓Nat.reduceEqDiff, ↓Nat.reducePow, ↓Nat.reduceLeDiff, ↓Nat.reduceLT, ↓Int.reduceLE, ↓Int.reduceLT, ↓reduceIte, ↓reduceCtorEq]; subst hr
  (refine vm_op ?_); intro r hr; simp only [hl, go_sem, ↓Nat.reduceBEq, ↓Nat.reduceAdd, ↓Nat.reduceMul, ↓Nat.reduceEqDiff, ↓Nat.reducePow, ↓Nat.reduceLeDiff, ↓Nat.reduceLT, ↓Int.reduceLE, ↓Int.reduceLT, ↓reduceIte, ↓reduceCtorEq]; subst hr
  (refine vm_op ?_); intro r hr; simp only [hl, go_sem, ↓Nat.reduceBEq, ↓Nat.reduceAdd, ↓Nat.reduceMul, ↓Nat.reduceEqDiff, ↓Nat.reducePow, ↓Nat.reduceLeDiff, ↓Nat.reduceLT, ↓Int.reduceLE, ↓Int.reduceLT, ↓reduceIte, ↓reduceCtorEq]; subst hr
  (first | refine vm_if rfl ?_ | refine vm_no rfl ?_ | refine vm_skip rfl ?_); intro r hr; simp only [hl, go_sem, ↓Nat.reduceBEq, ↓Nat.reduceAdd, ↓Nat.reduceMul, ↓Nat.reduceEqDiff, ↓Nat.reducePow, ↓Nat.reduceLeDiff, ↓Nat.reduceLT, ↓Int.reduceLE, ↓Int.reduceLT, ↓reduceIte, ↓reduceCtorEq]; subst hr
  (first | refine vm_if rfl ?_ | refine vm_no rfl ?_ | refine vm_skip rfl ?_); intro r hr; simp only [hl, go_sem, ↓Nat.reduceBEq, ↓Nat.reduceAdd, ↓Nat.reduceMul, ↓Nat.reduceEqDiff, ↓Nat.reducePow, ↓Nat.reduceLeDiff, ↓Nat.reduceLT, ↓Int.reduceLE, ↓Int.reduceLT, ↓reduceIte, ↓reduceCtorEq]; subst hr
  (first | refine vm_if rfl ?_ | refine vm_no rfl ?_ | refine vm_skip rfl ?_); intro r hr; simp only [hl, go_sem, ↓Nat.reduceBEq, ↓Nat.reduceAdd, ↓Nat.reduceMul, ↓Nat.reduceEqDiff, ↓Nat.reducePow, ↓Nat.reduceLeDiff, ↓Nat.reduceLT, ↓Int.reduceLE, ↓Int.reduceLT, ↓reduceIte, ↓reduceCtorEq]; subst hr
  (refine vm_op ?_); intro r hr; simp only [hl, go_sem, ↓Nat.reduceBEq, ↓Nat.reduceAdd, ↓Nat.reduceMul, ↓Nat.reduceEqDiff, ↓Nat.reducePow, ↓Nat.reduceLeDiff, ↓Nat.reduceLT, ↓Int.reduceLE, ↓Int.reduceLT, ↓reduceIte, ↓reduceCtorEq]; subst hr
  exact hQ
  refine Tr.cond rfl (fun h1 => ?_) (fun h1 => by cases h1)
  first | refine tr_seq_region (by rw [hE]; rfl) ?_ | (refine Tr.seq ?_; refine tr_seq_region (by rw [hE]; rfl) ?_)
  repeat (refine vc_op rfl ?_; simp only [go_sem, ↓Nat.reduceBEq, ↓Nat.reduceAdd, ↓Nat.reduceMul, ↓Nat.reduceEqDiff, ↓Nat.reducePow, ↓Nat.reduceLeDiff, ↓Nat.reduceLT, ↓Int.reduceLE, ↓Int.reduceLT, ↓reduceIte, ↓reduceCtorEq])
  refine vc_nil ?_
  refine Tr.ret ?_
  simp only [Try.f7, go_sem, ↓Nat.reduceBEq, ↓Nat.reduceAdd, ↓Nat.reduceMul, ↓Nat.reduceEqDiff, ↓Nat.reducePow, ↓Nat.reduceLeDiff, ↓Nat.reduceLT, ↓Int.reduceLE, ↓Int.reduceLT, ↓reduceIte, ↓reduceCtorEq]

def orAll (l : List Link) : Int := l.foldl (fun o a => orU o a.mask) 0
/-- Behind i rounds, from the last one on. -/
def stTu (l : List Link) (i : Nat) : S where
  fr := [(6, .int .i64 (l.length - i : Nat)), (5, .int .u64 (orAll (l.reverse.take i))), (4, .ms 0 67 (l.reverse.take i).length), (0, .sl (l.map Link.av) false)]
  hp := [(0, .row 67 ((l.reverse.take i).map Link.av))]
  nx := 1

theorem LinkTurned_main (l : List Link) (hl6 : l.length ≤ 40) (hg : guilty l.reverse = guilty l) (ha : andU (guilty l) (orAll l.reverse) = guilty l) : Pure Try.prog 7 [links l] (.bool true) := by
  have hl : decide ((40 : Int) < l.length) = false := decide_eq_false (by omega)
  unfold links
  refine pure_of_tr Try.func7 rfl (Nat.le_of_ble_eq_true rfl) rfl fun E hE => ?_
  first | refine tr_seq_region (by rw [hE]; rfl) ?_ | (refine Tr.seq ?_; refine tr_seq_region (by rw [hE]; rfl) ?_)
  repeat (refine vc_op rfl ?_; simp only [go_sem, ↓Nat.reduceBEq, ↓Nat.reduceAdd, ↓Nat.reduceMul, ↓Nat.reduceEqDiff, ↓Nat.reducePow, ↓Nat.reduceLeDiff, ↓Nat.reduceLT, ↓Int.reduceLE, ↓Int.reduceLT, ↓reduceIte, ↓reduceCtorEq])
  refine vc_nil ?_
  first | refine tr_seq_region (by rw [hE]; rfl) ?_ | (refine Tr.seq ?_; refine tr_seq_region (by rw [hE]; rfl) ?_)
  repeat (refine vc_op rfl ?_; simp only [go_sem, ↓Nat.reduceBEq, ↓Nat.reduceAdd, ↓Nat.reduceMul, ↓Nat.reduceEqDiff, ↓Nat.reducePow, ↓Nat.reduceLeDiff, ↓Nat.reduceLT, ↓Int.reduceLE, ↓Int.reduceLT, ↓reduceIte, ↓reduceCtorEq])
  refine call_fn rfl rfl rfl rfl (enters_of Try.func14 (by kernel_rfl) rfl) (lawake_pure) rfl rfl rfl ?_
  simp only [go_sem, ↓Nat.reduceBEq, ↓Nat.reduceAdd, ↓Nat.reduceMul, ↓Nat.reduceEqDiff, ↓Nat.reducePow, ↓Nat.reduceLeDiff, ↓Nat.reduceLT, ↓Int.reduceLE, ↓Int.reduceLT, ↓reduceIte, ↓reduceCtorEq]
  repeat (refine vc_op rfl ?_; simp only [go_sem, ↓Nat.reduceBEq, ↓Nat.reduceAdd, ↓Nat.reduceMul, ↓Nat.reduceEqDiff, ↓Nat.reducePow, ↓Nat.reduceLeDiff, ↓Nat.reduceLT, ↓Int.reduceLE, ↓Int.reduceLT, ↓reduceIte, ↓reduceCtorEq])
  refine vc_nil ?_
  refine Tr.seq ?_
  first | apply tr_m (by rw [hE]; rfl) | (refine Tr.seq ?_; apply tr_m (by rw [hE]; rfl))
  intro Q hQ
  simp only [List.toList_toArray, List.map_cons, List.map_nil, mo, guardSlot, Option.map_some, Option.map_none, List.getElem?_toArray, List.getElem?_cons_succ, List.getElem?_cons_zero, Option.bind_some]
  (refine vm_op ?_); intro r hr; simp only [hl, go_sem, ↓Nat.reduceBEq, ↓Nat.reduceAdd, ↓Nat.reduceMul, ↓Nat.reduceEqDiff, ↓Nat.reducePow, ↓Nat.reduceLeDiff, ↓Nat.reduceLT, ↓Int.reduceLE, ↓Int.reduceLT, ↓reduceIte, ↓reduceCtorEq]; subst hr
  (refine vm_op ?_); intro r hr; simp only [hl, go_sem, ↓Nat.reduceBEq, ↓Nat.reduceAdd, ↓Nat.reduceMul, ↓Nat.reduceEqDiff, ↓Nat.reducePow, ↓Nat.reduceLeDiff, ↓Nat.reduceLT, ↓Int.reduceLE, ↓Int.reduceLT, ↓reduceIte, ↓reduceCtorEq]; subst hr
  (refine vm_op ?_); intro r hr; simp only [hl, go_sem, ↓Nat.reduceBEq, ↓Nat.reduceAdd, ↓Nat.reduceMul, ↓Nat.reduceEqDiff, ↓Nat.reducePow, ↓Nat.reduceLeDiff, ↓Nat.reduceLT, ↓Int.reduceLE, ↓Int.reduceLT, ↓reduceIte, ↓reduceCtorEq]; subst hr
  (first | refine vm_if rfl ?_ | refine vm_no rfl ?_ | refine vm_skip rfl ?_); intro r hr; simp only [hl, go_sem, ↓Nat.reduceBEq, ↓Nat.reduceAdd, ↓Nat.reduceMul, ↓Nat.reduceEqDiff, ↓Nat.reducePow, ↓Nat.reduceLeDiff, ↓Nat.reduceLT, ↓Int.reduceLE, ↓Int.reduceLT, ↓reduceIte, ↓reduceCtorEq]; subst hr
  (first | refine vm_if rfl ?_ | refine vm_no rfl ?_ | refine vm_skip rfl ?_); intro r hr; simp only [hl, go_sem, ↓Nat.reduceBEq, ↓Nat.reduceAdd, ↓Nat.reduceMul, ↓Nat.reduceEqDiff, ↓Nat.reducePow, ↓Nat.reduceLeDiff, ↓Nat.reduceLT, ↓Int.reduceLE, ↓Int.reduceLT, ↓reduceIte, ↓reduceCtorEq]; subst hr
  (first | refine vm_if rfl ?_ | refine vm_no rfl ?_ | refine vm_skip rfl ?_); intro r hr; simp only [hl, go_sem, ↓Nat.reduceBEq, ↓Nat.reduceAdd, ↓Nat.reduceMul, ↓Nat.reduceEqDiff, ↓Nat.reducePow, ↓Nat.reduceLeDiff, ↓Nat.reduceLT, ↓Int.reduceLE, ↓Int.reduceLT, ↓reduceIte, ↓reduceCtorEq]; subst hr
  (refine vm_op ?_); intro r hr; simp only [hl, go_sem, ↓Nat.reduceBEq, ↓Nat.reduceAdd, ↓Nat.reduceMul, ↓Nat.reduceEqDiff, ↓Nat.reducePow, ↓Nat.reduceLeDiff, ↓Nat.reduceLT, ↓Int.reduceLE, ↓Int.reduceLT, ↓reduceIte, ↓reduceCtorEq]; subst hr
  exact hQ
  refine Tr.cond rfl (fun h1 => by cases h1) (fun h1 => ?_)
  refine Tr.skip ?_
  try simp only [blockK, thenK, ↓reduceIte]
  first | refine tr_seq_region (by rw [hE]; rfl) ?_ | (refine Tr.seq ?_; refine tr_seq_region (by rw [hE]; rfl) ?_)
  repeat (refine vc_op rfl ?_; simp only [go_sem, ↓Nat.reduceBEq, ↓Nat.reduceAdd, ↓Nat.reduceMul, ↓Nat.reduceEqDiff, ↓Nat.reducePow, ↓Nat.reduceLeDiff, ↓Nat.reduceLT, ↓Int.reduceLE, ↓Int.reduceLT, ↓reduceIte, ↓reduceCtorEq])
  refine vc_nil ?_
  first | refine tr_seq_region (by rw [hE]; rfl) ?_ | (refine Tr.seq ?_; refine tr_seq_region (by rw [hE]; rfl) ?_)
  repeat (refine vc_op rfl ?_; simp only [go_sem, ↓Nat.reduceBEq, ↓Nat.reduceAdd, ↓Nat.reduceMul, ↓Nat.reduceEqDiff, ↓Nat.reducePow, ↓Nat.reduceLeDiff, ↓Nat.reduceLT, ↓Int.reduceLE, ↓Int.reduceLT, ↓reduceIte, ↓reduceCtorEq])
  refine vc_nil ?_
  refine Tr.seq ?_
  first | refine tr_seq_region (by rw [hE]; rfl) ?_ | (refine Tr.seq ?_; refine tr_seq_region (by rw [hE]; rfl) ?_)
  repeat (refine vc_op rfl ?_; simp only [go_sem, ↓Nat.reduceBEq, ↓Nat.reduceAdd, ↓Nat.reduceMul, ↓Nat.reduceEqDiff, ↓Nat.reducePow, ↓Nat.reduceLeDiff, ↓Nat.reduceLT, ↓Int.reduceLE, ↓Int.reduceLT, ↓reduceIte, ↓reduceCtorEq])
  refine vc_nil ?_
  refine Tr.block ?_
  refine Tr.loop (stTu l) (fun i => i ≤ l.length) (fun i => l.length - i) 0 (Nat.zero_le _) ?_ ?_
  · refine (Wk.nil 4 67 rfl).trans (wk_ren (fun | 0 => 240 | n => n) ?_ ?_ rfl rfl rfl)
    · repeat' (first | exact rfl | exact trivial | constructor)
    · repeat' (first | exact rfl | exact trivial | constructor)
  · intro i hi
    unfold stTu
    refine Tr.seq ?_
    first | refine tr_seq_region (by rw [hE]; rfl) ?_ | (refine Tr.seq ?_; refine tr_seq_region (by rw [hE]; rfl) ?_)
    repeat (refine vc_op rfl ?_; simp only [go_sem, ↓Nat.reduceBEq, ↓Nat.reduceAdd, ↓Nat.reduceMul, ↓Nat.reduceEqDiff, ↓Nat.reducePow, ↓Nat.reduceLeDiff, ↓Nat.reduceLT, ↓Int.reduceLE, ↓Int.reduceLT, ↓reduceIte, ↓reduceCtorEq])
    refine vc_nil ?_
    refine Tr.cond rfl (fun h2 => ?_) (fun h2 => ?_)
    · refine Tr.skip ?_
      try simp only [blockK, thenK, ↓reduceIte]
      have hlt : i < l.length := by have := of_decide_eq_true h2; omega
      have hrl : i < l.reverse.length := by simp; omega
      have ha := nth_map_lt Link.av l (l.length - 1 - i) (by omega)
      have hra : l.reverse[i] = l[l.length - 1 - i]'(by omega) := by simp
      generalize hla : l[l.length - 1 - i]'(by omega) = a at ha hra
      have ht := take_next hrl hra
      have hw : IntKind.i64.wrap (((l.length - i : Nat) : Int) - 1) = ((l.length - 1 - i : Nat) : Int) := by
        rw [show (((l.length - i : Nat) : Int) - 1) = ((l.length - 1 - i : Nat) : Int) by omega]; exact wrap_small (by omega)
      have hlen : (l.reverse.take i).length ≤ 40 := by simp; omega
      have hoa : orAll (l.reverse.take (i + 1)) = orU (orAll (l.reverse.take i)) a.mask := by
        rw [ht, orAll, List.foldl_append]; rfl
      refine Tr.seq ?_
      refine Tr.block ?_
      first | refine tr_seq_region (by rw [hE]; rfl) ?_ | (refine Tr.seq ?_; refine tr_seq_region (by rw [hE]; rfl) ?_)
      repeat (refine vc_op rfl ?_; simp only [hw, ha, go_sem, ↓Nat.reduceBEq, ↓Nat.reduceAdd, ↓Nat.reduceMul, ↓Nat.reduceEqDiff, ↓Nat.reducePow, ↓Nat.reduceLeDiff, ↓Nat.reduceLT, ↓Int.reduceLE, ↓Int.reduceLT, ↓reduceIte, ↓reduceCtorEq])
      refine ⟨by omega, by omega, ?_⟩
      repeat (refine vc_op rfl ?_; simp only [go_sem, ↓Nat.reduceBEq, ↓Nat.reduceAdd, ↓Nat.reduceMul, ↓Nat.reduceEqDiff, ↓Nat.reducePow, ↓Nat.reduceLeDiff, ↓Nat.reduceLT, ↓Int.reduceLE, ↓Int.reduceLT, ↓reduceIte, ↓reduceCtorEq])
      refine vc_nil ?_
      refine tr_region (by rw [hE]; rfl) ?_
      repeat (refine vc_op rfl ?_; simp only [hw, ha, go_sem, ↓Nat.reduceBEq, ↓Nat.reduceAdd, ↓Nat.reduceMul, ↓Nat.reduceEqDiff, ↓Nat.reducePow, ↓Nat.reduceLeDiff, ↓Nat.reduceLT, ↓Int.reduceLE, ↓Int.reduceLT, ↓reduceIte, ↓reduceCtorEq])
      refine vc_nil ?_
      try simp only [blockK, thenK, ↓reduceIte]
      refine tr_region (by rw [hE]; rfl) ?_
      repeat (refine vc_op rfl ?_; simp only [hw, go_sem, ↓Nat.reduceBEq, ↓Nat.reduceAdd, ↓Nat.reduceMul, ↓Nat.reduceEqDiff, ↓Nat.reducePow, ↓Nat.reduceLeDiff, ↓Nat.reduceLT, ↓Int.reduceLE, ↓Int.reduceLT, ↓reduceIte, ↓reduceCtorEq])
      refine vc_nil ?_
      try simp only [blockK, thenK, ↓reduceIte]
      refine ⟨i + 1, hlt, by omega, ?_⟩
      rw [hoa, ht, show l.length - (i + 1) = l.length - 1 - i by omega]
      simp only [List.length_append, List.length_singleton, List.map_append, List.map_cons, List.map_nil]

      refine wk_ren (fun | 0 => 145 | n => n) ?_ ?_ rfl rfl rfl
      · repeat' (first | exact rfl | exact trivial | constructor)
      · repeat' (first | exact rfl | exact trivial | constructor)
    · refine Tr.exit ?_
      try simp only [blockK, thenK, ↓reduceIte]
      have hil : i = l.length := by
        have := of_decide_eq_false h2
        omega
      subst hil
      have htl : l.reverse.take l.length = l.reverse := by rw [List.take_of_length_le (by simp)]
      rw [htl]
      first | refine tr_seq_region (by rw [hE]; rfl) ?_ | (refine Tr.seq ?_; refine tr_seq_region (by rw [hE]; rfl) ?_)
      repeat (refine vc_op rfl ?_; simp only [go_sem, ↓Nat.reduceBEq, ↓Nat.reduceAdd, ↓Nat.reduceMul, ↓Nat.reduceEqDiff, ↓Nat.reducePow, ↓Nat.reduceLeDiff, ↓Nat.reduceLT, ↓Int.reduceLE, ↓Int.reduceLT, ↓reduceIte, ↓reduceCtorEq])
      refine call_fn rfl rfl rfl rfl (enters_of Try.func25 (by kernel_rfl) rfl) (LGuilty_pure l (by omega)) rfl rfl rfl ?_
      simp only [go_sem, ↓Nat.reduceBEq, ↓Nat.reduceAdd, ↓Nat.reduceMul, ↓Nat.reduceEqDiff, ↓Nat.reducePow, ↓Nat.reduceLeDiff, ↓Nat.reduceLT, ↓Int.reduceLE, ↓Int.reduceLT, ↓reduceIte, ↓reduceCtorEq]
      repeat (refine vc_op rfl ?_; simp only [go_sem, ↓Nat.reduceBEq, ↓Nat.reduceAdd, ↓Nat.reduceMul, ↓Nat.reduceEqDiff, ↓Nat.reducePow, ↓Nat.reduceLeDiff, ↓Nat.reduceLT, ↓Int.reduceLE, ↓Int.reduceLT, ↓reduceIte, ↓reduceCtorEq])
      refine vc_nil ?_
      first | apply tr_m (by rw [hE]; rfl) | (refine Tr.seq ?_; apply tr_m (by rw [hE]; rfl))
      intro Q hQ
      simp only [List.toList_toArray, List.map_cons, List.map_nil, mo, guardSlot, Option.map_some, Option.map_none, List.getElem?_toArray, List.getElem?_cons_succ, List.getElem?_cons_zero, Option.bind_some]
      (refine vm_op ?_); intro r hr; simp only [go_sem, ↓Nat.reduceBEq, ↓Nat.reduceAdd, ↓Nat.reduceMul, ↓Nat.reduceEqDiff, ↓Nat.reducePow, ↓Nat.reduceLeDiff, ↓Nat.reduceLT, ↓Int.reduceLE, ↓Int.reduceLT, ↓reduceIte, ↓reduceCtorEq]; subst hr
      (refine vm_op ?_); intro r hr; simp only [go_sem, ↓Nat.reduceBEq, ↓Nat.reduceAdd, ↓Nat.reduceMul, ↓Nat.reduceEqDiff, ↓Nat.reducePow, ↓Nat.reduceLeDiff, ↓Nat.reduceLT, ↓Int.reduceLE, ↓Int.reduceLT, ↓reduceIte, ↓reduceCtorEq]; subst hr
      (refine vm_op ?_); intro r hr; simp only [go_sem, ↓Nat.reduceBEq, ↓Nat.reduceAdd, ↓Nat.reduceMul, ↓Nat.reduceEqDiff, ↓Nat.reducePow, ↓Nat.reduceLeDiff, ↓Nat.reduceLT, ↓Int.reduceLE, ↓Int.reduceLT, ↓reduceIte, ↓reduceCtorEq]
      refine call_fn rfl rfl rfl rfl (enters_of Try.func25 (by kernel_rfl) rfl) (LGuilty_pure l.reverse (by simp; omega)) (by simp only [links, go_sem, ↓Nat.reduceBEq, ↓Nat.reduceAdd, ↓Nat.reduceMul, ↓Nat.reduceEqDiff, ↓Nat.reducePow, ↓Nat.reduceLeDiff, ↓Nat.reduceLT, ↓Int.reduceLE, ↓Int.reduceLT, ↓reduceIte, ↓reduceCtorEq]) rfl rfl ?_
      simp only [go_sem, ↓Nat.reduceBEq, ↓Nat.reduceAdd, ↓Nat.reduceMul, ↓Nat.reduceEqDiff, ↓Nat.reducePow, ↓Nat.reduceLeDiff, ↓Nat.reduceLT, ↓Int.reduceLE, ↓Int.reduceLT, ↓reduceIte, ↓reduceCtorEq]
      rw [hg]
      subst hr
      simp only [orU, andU] at ha
      (refine vm_op ?_); intro r hr; simp only [ha, go_sem, ↓Nat.reduceBEq, ↓Nat.reduceAdd, ↓Nat.reduceMul, ↓Nat.reduceEqDiff, ↓Nat.reducePow, ↓Nat.reduceLeDiff, ↓Nat.reduceLT, ↓Int.reduceLE, ↓Int.reduceLT, ↓reduceIte, ↓reduceCtorEq]; subst hr
      (refine vm_op ?_); intro r hr; simp only [ha, go_sem, ↓Nat.reduceBEq, ↓Nat.reduceAdd, ↓Nat.reduceMul, ↓Nat.reduceEqDiff, ↓Nat.reducePow, ↓Nat.reduceLeDiff, ↓Nat.reduceLT, ↓Int.reduceLE, ↓Int.reduceLT, ↓reduceIte, ↓reduceCtorEq]; subst hr
      (first | refine vm_if rfl ?_ | refine vm_no rfl ?_ | refine vm_skip rfl ?_); intro r hr; simp only [ha, go_sem, ↓Nat.reduceBEq, ↓Nat.reduceAdd, ↓Nat.reduceMul, ↓Nat.reduceEqDiff, ↓Nat.reducePow, ↓Nat.reduceLeDiff, ↓Nat.reduceLT, ↓Int.reduceLE, ↓Int.reduceLT, ↓reduceIte, ↓reduceCtorEq]; subst hr
      (first | refine vm_if rfl ?_ | refine vm_no rfl ?_ | refine vm_skip rfl ?_); intro r hr; simp only [ha, go_sem, ↓Nat.reduceBEq, ↓Nat.reduceAdd, ↓Nat.reduceMul, ↓Nat.reduceEqDiff, ↓Nat.reducePow, ↓Nat.reduceLeDiff, ↓Nat.reduceLT, ↓Int.reduceLE, ↓Int.reduceLT, ↓reduceIte, ↓reduceCtorEq]; subst hr
      (first | refine vm_if rfl ?_ | refine vm_no rfl ?_ | refine vm_skip rfl ?_); intro r hr; simp only [ha, go_sem, ↓Nat.reduceBEq, ↓Nat.reduceAdd, ↓Nat.reduceMul, ↓Nat.reduceEqDiff, ↓Nat.reducePow, ↓Nat.reduceLeDiff, ↓Nat.reduceLT, ↓Int.reduceLE, ↓Int.reduceLT, ↓reduceIte, ↓reduceCtorEq]; subst hr
      (first | refine vm_if rfl ?_ | refine vm_no rfl ?_ | refine vm_skip rfl ?_); intro r hr; simp only [ha, go_sem, ↓Nat.reduceBEq, ↓Nat.reduceAdd, ↓Nat.reduceMul, ↓Nat.reduceEqDiff, ↓Nat.reducePow, ↓Nat.reduceLeDiff, ↓Nat.reduceLT, ↓Int.reduceLE, ↓Int.reduceLT, ↓reduceIte, ↓reduceCtorEq]; subst hr
      (first | refine vm_if rfl ?_ | refine vm_no rfl ?_ | refine vm_skip rfl ?_); intro r hr; simp only [ha, go_sem, ↓Nat.reduceBEq, ↓Nat.reduceAdd, ↓Nat.reduceMul, ↓Nat.reduceEqDiff, ↓Nat.reducePow, ↓Nat.reduceLeDiff, ↓Nat.reduceLT, ↓Int.reduceLE, ↓Int.reduceLT, ↓reduceIte, ↓reduceCtorEq]; subst hr
      (refine vm_op ?_); intro r hr; simp only [ha, go_sem, ↓Nat.reduceBEq, ↓Nat.reduceAdd, ↓Nat.reduceMul, ↓Nat.reduceEqDiff, ↓Nat.reducePow, ↓Nat.reduceLeDiff, ↓Nat.reduceLT, ↓Int.reduceLE, ↓Int.reduceLT, ↓reduceIte, ↓reduceCtorEq]; subst hr
      (refine vm_op ?_); intro r hr; simp only [ha, go_sem, ↓Nat.reduceBEq, ↓Nat.reduceAdd, ↓Nat.reduceMul, ↓Nat.reduceEqDiff, ↓Nat.reducePow, ↓Nat.reduceLeDiff, ↓Nat.reduceLT, ↓Int.reduceLE, ↓Int.reduceLT, ↓reduceIte, ↓reduceCtorEq]; subst hr
      exact hQ
      refine Tr.ret ?_
      simp only [Try.f7, go_sem, ↓Nat.reduceBEq, ↓Nat.reduceAdd, ↓Nat.reduceMul, ↓Nat.reduceEqDiff, ↓Nat.reducePow, ↓Nat.reduceLeDiff, ↓Nat.reduceLT, ↓Int.reduceLE, ↓Int.reduceLT, ↓reduceIte, ↓reduceCtorEq]

theorem LinkTurned_pure (l : List Link) : Pure Try.prog 7 [links l] (.bool true) := by
  by_cases h : 40 < l.length
  · exact LinkTurned_early l h
  · refine LinkTurned_main l (by omega) (guilty_reverse l) ?_
    refine eq_of_has (inU_and _ _) (guilty_in l) fun k => ?_
    rw [has_and, Bool.eq_iff_iff, Bool.and_eq_true]
    refine ⟨And.left, fun h => ⟨h, ?_⟩⟩
    rw [orAll, orFold_has]
    obtain ⟨i, j, a, b, _, h2, _, _, h5, _⟩ := (guilty_has l k).1 h
    exact .inr ⟨a, by simp [List.mem_of_getElem? h2], h5⟩
