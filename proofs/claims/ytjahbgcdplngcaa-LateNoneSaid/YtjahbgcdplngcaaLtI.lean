/- The reference of layer 13, once more: the same as the program. -/
import Derived.Test.YtjahbgcdplngcaaLtH
set_option linter.unusedSimpArgs false
namespace Go.Proofs.Ytjahbgcdplngcaa
open Go Go.Ab

def st32 (l : List Att) (now : Int) (i : Nat) : S where
  fr := [(8, .int .i64 i), (7, .ms 1 100 ((l.take i).filter fun a => !decide (a.slot < now)).length), (6, .ms 0 100 ((l.take i).filter fun a => decide (a.slot < now)).length), (1, .int .u64 now), (0, .sl (l.map Att.av) false)]
  hp := [(0, .row 100 (((l.take i).filter fun a => decide (a.slot < now)).map Att.av)), (1, .row 100 (((l.take i).filter fun a => !decide (a.slot < now)).map Att.av))]
  nx := 2

theorem RDue_pure (l : List Att) (now : Int) (hl : l.length ≤ 100) : Pure Try.prog 32 [atts l, .int .u64 now] (.tup [atts (due now l), atts (rest now l)]) := by
  unfold atts
  refine pure_of_tr Try.func32 rfl (Nat.le_of_ble_eq_true rfl) rfl fun E hE => ?_
  first | refine tr_seq_region (by rw [hE]; rfl) ?_ | (refine Tr.seq ?_; refine tr_seq_region (by rw [hE]; rfl) ?_)
  repeat (refine vc_op rfl ?_; simp only [go_sem, ↓Nat.reduceBEq, ↓Nat.reduceAdd, ↓Nat.reduceMul, ↓Nat.reduceEqDiff, ↓Nat.reducePow, ↓Nat.reduceLeDiff, ↓Nat.reduceLT, ↓Int.reduceLE, ↓Int.reduceLT, ↓reduceIte, ↓reduceCtorEq])
  refine vc_nil ?_
  first | refine tr_seq_region (by rw [hE]; rfl) ?_ | (refine Tr.seq ?_; refine tr_seq_region (by rw [hE]; rfl) ?_)
  repeat (refine vc_op rfl ?_; simp only [go_sem, ↓Nat.reduceBEq, ↓Nat.reduceAdd, ↓Nat.reduceMul, ↓Nat.reduceEqDiff, ↓Nat.reducePow, ↓Nat.reduceLeDiff, ↓Nat.reduceLT, ↓Int.reduceLE, ↓Int.reduceLT, ↓reduceIte, ↓reduceCtorEq])
  refine vc_nil ?_
  first | refine tr_seq_region (by rw [hE]; rfl) ?_ | (refine Tr.seq ?_; refine tr_seq_region (by rw [hE]; rfl) ?_)
  repeat (refine vc_op rfl ?_; simp only [go_sem, ↓Nat.reduceBEq, ↓Nat.reduceAdd, ↓Nat.reduceMul, ↓Nat.reduceEqDiff, ↓Nat.reducePow, ↓Nat.reduceLeDiff, ↓Nat.reduceLT, ↓Int.reduceLE, ↓Int.reduceLT, ↓reduceIte, ↓reduceCtorEq])
  refine vc_nil ?_
  refine Tr.seq ?_
  first | refine tr_seq_region (by rw [hE]; rfl) ?_ | (refine Tr.seq ?_; refine tr_seq_region (by rw [hE]; rfl) ?_)
  repeat (refine vc_op rfl ?_; simp only [go_sem, ↓Nat.reduceBEq, ↓Nat.reduceAdd, ↓Nat.reduceMul, ↓Nat.reduceEqDiff, ↓Nat.reducePow, ↓Nat.reduceLeDiff, ↓Nat.reduceLT, ↓Int.reduceLE, ↓Int.reduceLT, ↓reduceIte, ↓reduceCtorEq])
  refine vc_nil ?_
  refine Tr.block ?_
  refine Tr.loop (st32 l now) (fun i => i ≤ l.length) (fun i => l.length - i) 0 (Nat.zero_le _) ?_ ?_
  · refine (Wk.nil 6 100 rfl).trans ((Wk.nil 7 100 rfl).trans (wk_ren (fun | 0 => 80 | 1 => 81 | n => n) ?_ ?_ rfl rfl rfl))
    · repeat' (first | exact rfl | exact trivial | constructor)
    · repeat' (first | exact rfl | exact trivial | constructor)
  · intro i hi
    unfold st32
    refine Tr.seq ?_
    first | refine tr_seq_region (by rw [hE]; rfl) ?_ | (refine Tr.seq ?_; refine tr_seq_region (by rw [hE]; rfl) ?_)
    repeat (refine vc_op rfl ?_; simp only [go_sem, ↓Nat.reduceBEq, ↓Nat.reduceAdd, ↓Nat.reduceMul, ↓Nat.reduceEqDiff, ↓Nat.reducePow, ↓Nat.reduceLeDiff, ↓Nat.reduceLT, ↓Int.reduceLE, ↓Int.reduceLT, ↓reduceIte, ↓reduceCtorEq])
    refine vc_nil ?_
    refine Tr.cond rfl (fun h1 => ?_) (fun h1 => ?_)
    · refine Tr.skip ?_
      try simp only [blockK, thenK, ↓reduceIte]
      have hlt : i < l.length := by have := of_decide_eq_true h1; omega
      have ha := nth_map_lt Att.av l i hlt
      generalize hla : l[i] = a at ha
      have hw := wrap_next (n := i) (by omega)
      have hf : ((l.take i).filter fun a => decide (a.slot < now)).length ≤ i := Nat.le_trans (List.length_filter_le _ _) (by simp; omega)
      have hg : ((l.take i).filter fun a => !decide (a.slot < now)).length ≤ i := Nat.le_trans (List.length_filter_le _ _) (by simp; omega)
      have ht := take_next hlt hla
      refine Tr.seq ?_
      refine Tr.block ?_
      first | refine tr_seq_region (by rw [hE]; rfl) ?_ | (refine Tr.seq ?_; refine tr_seq_region (by rw [hE]; rfl) ?_)
      repeat (refine vc_op rfl ?_; simp only [ha, go_sem, ↓Nat.reduceBEq, ↓Nat.reduceAdd, ↓Nat.reduceMul, ↓Nat.reduceEqDiff, ↓Nat.reducePow, ↓Nat.reduceLeDiff, ↓Nat.reduceLT, ↓Int.reduceLE, ↓Int.reduceLT, ↓reduceIte, ↓reduceCtorEq])
      refine vc_nil ?_
      refine Tr.cond rfl (fun hd => ?_) (fun hd => ?_)
      · refine tr_region (by rw [hE]; rfl) ?_
        repeat (refine vc_op rfl ?_; simp only [ha, go_sem, ↓Nat.reduceBEq, ↓Nat.reduceAdd, ↓Nat.reduceMul, ↓Nat.reduceEqDiff, ↓Nat.reducePow, ↓Nat.reduceLeDiff, ↓Nat.reduceLT, ↓Int.reduceLE, ↓Int.reduceLT, ↓reduceIte, ↓reduceCtorEq])
        refine ⟨by omega, by omega, ?_⟩
        repeat (refine vc_op rfl ?_; simp only [go_sem, ↓Nat.reduceBEq, ↓Nat.reduceAdd, ↓Nat.reduceMul, ↓Nat.reduceEqDiff, ↓Nat.reducePow, ↓Nat.reduceLeDiff, ↓Nat.reduceLT, ↓Int.reduceLE, ↓Int.reduceLT, ↓reduceIte, ↓reduceCtorEq])
        refine vc_nil ?_
        try simp only [blockK, thenK, ↓reduceIte]
        refine tr_region (by rw [hE]; rfl) ?_
        repeat (refine vc_op rfl ?_; simp only [hw, go_sem, ↓Nat.reduceBEq, ↓Nat.reduceAdd, ↓Nat.reduceMul, ↓Nat.reduceEqDiff, ↓Nat.reducePow, ↓Nat.reduceLeDiff, ↓Nat.reduceLT, ↓Int.reduceLE, ↓Int.reduceLT, ↓reduceIte, ↓reduceCtorEq])
        refine vc_nil ?_
        try simp only [blockK, thenK, ↓reduceIte]
        have hA : (l.take (i + 1)).filter (fun a => decide (a.slot < now)) = (l.take i).filter (fun a => decide (a.slot < now)) ++ [a] := by
          rw [ht, List.filter_append]; simp [hd]
        have hB : (l.take (i + 1)).filter (fun a => !decide (a.slot < now)) = (l.take i).filter (fun a => !decide (a.slot < now)) := by
          rw [ht, List.filter_append]; simp [hd]
        refine ⟨i + 1, hlt, by omega, ?_⟩
        simp only [hA, hB, List.length_append, List.length_singleton, List.map_append]
        refine wk_ren (fun | 0 => 274 | n => n) ?_ ?_ rfl rfl rfl
        · repeat' (first | exact rfl | exact trivial | constructor)
        · repeat' (first | exact rfl | exact trivial | constructor)
      · refine tr_region (by rw [hE]; rfl) ?_
        repeat (refine vc_op rfl ?_; simp only [ha, go_sem, ↓Nat.reduceBEq, ↓Nat.reduceAdd, ↓Nat.reduceMul, ↓Nat.reduceEqDiff, ↓Nat.reducePow, ↓Nat.reduceLeDiff, ↓Nat.reduceLT, ↓Int.reduceLE, ↓Int.reduceLT, ↓reduceIte, ↓reduceCtorEq])
        refine ⟨by omega, by omega, ?_⟩
        repeat (refine vc_op rfl ?_; simp only [go_sem, ↓Nat.reduceBEq, ↓Nat.reduceAdd, ↓Nat.reduceMul, ↓Nat.reduceEqDiff, ↓Nat.reducePow, ↓Nat.reduceLeDiff, ↓Nat.reduceLT, ↓Int.reduceLE, ↓Int.reduceLT, ↓reduceIte, ↓reduceCtorEq])
        refine vc_nil ?_
        try simp only [blockK, thenK, ↓reduceIte]
        refine tr_region (by rw [hE]; rfl) ?_
        repeat (refine vc_op rfl ?_; simp only [hw, go_sem, ↓Nat.reduceBEq, ↓Nat.reduceAdd, ↓Nat.reduceMul, ↓Nat.reduceEqDiff, ↓Nat.reducePow, ↓Nat.reduceLeDiff, ↓Nat.reduceLT, ↓Int.reduceLE, ↓Int.reduceLT, ↓reduceIte, ↓reduceCtorEq])
        refine vc_nil ?_
        try simp only [blockK, thenK, ↓reduceIte]
        have hA : (l.take (i + 1)).filter (fun a => decide (a.slot < now)) = (l.take i).filter (fun a => decide (a.slot < now)) := by
          rw [ht, List.filter_append]; simp [hd]
        have hB : (l.take (i + 1)).filter (fun a => !decide (a.slot < now)) = (l.take i).filter (fun a => !decide (a.slot < now)) ++ [a] := by
          rw [ht, List.filter_append]; simp [hd]
        refine ⟨i + 1, hlt, by omega, ?_⟩
        simp only [hA, hB, List.length_append, List.length_singleton, List.map_append]
        refine wk_ren (fun | 1 => 274 | n => n) ?_ ?_ rfl rfl rfl
        · repeat' (first | exact rfl | exact trivial | constructor)
        · repeat' (first | exact rfl | exact trivial | constructor)
    · refine Tr.exit ?_
      try simp only [blockK, thenK, ↓reduceIte]
      have hil : i = l.length := by
        have := of_decide_eq_false h1
        omega
      subst hil
      rw [List.take_length]
      first | refine tr_seq_region (by rw [hE]; rfl) ?_ | (refine Tr.seq ?_; refine tr_seq_region (by rw [hE]; rfl) ?_)
      repeat (refine vc_op rfl ?_; simp only [go_sem, ↓Nat.reduceBEq, ↓Nat.reduceAdd, ↓Nat.reduceMul, ↓Nat.reduceEqDiff, ↓Nat.reducePow, ↓Nat.reduceLeDiff, ↓Nat.reduceLT, ↓Int.reduceLE, ↓Int.reduceLT, ↓reduceIte, ↓reduceCtorEq])
      refine vc_nil ?_
      refine Tr.ret ?_
      simp only [due, rest, Try.f32, go_sem, ↓Nat.reduceBEq, ↓Nat.reduceAdd, ↓Nat.reduceMul, ↓Nat.reduceEqDiff, ↓Nat.reducePow, ↓Nat.reduceLeDiff, ↓Nat.reduceLT, ↓Int.reduceLE, ↓Int.reduceLT, ↓reduceIte, ↓reduceCtorEq]

def st34 (l : List Att) (a0 : Att) (i : Nat) : S where
  fr := [(5, .int .i64 i), (4, .int .u64 (least a0 (l.take i)).slot), (0, .sl (l.map Att.av) false)]
  hp := []
  nx := 0

theorem RNext_pure (l : List Att) (hl : l.length ≤ 100) : Pure Try.prog 34 [atts l] (.tup [.int .u64 (nextA l).1, .bool (nextA l).2]) := by
  unfold atts
  refine pure_of_tr Try.func34 rfl (Nat.le_of_ble_eq_true rfl) rfl fun E hE => ?_
  first | refine tr_seq_region (by rw [hE]; rfl) ?_ | (refine Tr.seq ?_; refine tr_seq_region (by rw [hE]; rfl) ?_)
  repeat (refine vc_op rfl ?_; simp only [go_sem, ↓Nat.reduceBEq, ↓Nat.reduceAdd, ↓Nat.reduceMul, ↓Nat.reduceEqDiff, ↓Nat.reducePow, ↓Nat.reduceLeDiff, ↓Nat.reduceLT, ↓Int.reduceLE, ↓Int.reduceLT, ↓reduceIte, ↓reduceCtorEq])
  refine vc_nil ?_
  refine Tr.seq ?_
  first | refine tr_seq_region (by rw [hE]; rfl) ?_ | (refine Tr.seq ?_; refine tr_seq_region (by rw [hE]; rfl) ?_)
  repeat (refine vc_op rfl ?_; simp only [go_sem, ↓Nat.reduceBEq, ↓Nat.reduceAdd, ↓Nat.reduceMul, ↓Nat.reduceEqDiff, ↓Nat.reducePow, ↓Nat.reduceLeDiff, ↓Nat.reduceLT, ↓Int.reduceLE, ↓Int.reduceLT, ↓reduceIte, ↓reduceCtorEq])
  refine vc_nil ?_
  refine Tr.cond rfl (fun h1 => ?_) (fun h1 => ?_)
  · have hz : l = [] := List.eq_nil_of_length_eq_zero (by have := of_decide_eq_true h1; omega)
    subst hz
    first | refine tr_seq_region (by rw [hE]; rfl) ?_ | (refine Tr.seq ?_; refine tr_seq_region (by rw [hE]; rfl) ?_)
    repeat (refine vc_op rfl ?_; simp only [go_sem, ↓Nat.reduceBEq, ↓Nat.reduceAdd, ↓Nat.reduceMul, ↓Nat.reduceEqDiff, ↓Nat.reducePow, ↓Nat.reduceLeDiff, ↓Nat.reduceLT, ↓Int.reduceLE, ↓Int.reduceLT, ↓reduceIte, ↓reduceCtorEq])
    refine vc_nil ?_
    refine Tr.ret ?_
    simp only [nextA, Try.f34, go_sem, ↓Nat.reduceBEq, ↓Nat.reduceAdd, ↓Nat.reduceMul, ↓Nat.reduceEqDiff, ↓Nat.reducePow, ↓Nat.reduceLeDiff, ↓Nat.reduceLT, ↓Int.reduceLE, ↓Int.reduceLT, ↓reduceIte, ↓reduceCtorEq]
  · have hn : 0 < l.length := by have := of_decide_eq_false h1; omega
    have hnx : nextA l = ((least l[0] l).slot, true) := by
      cases l with
      | nil => simp at hn
      | cons a r => rfl
    have h0 := nth_map_lt Att.av l 0 hn
    rw [hnx]
    generalize ha0 : l[0] = a0 at h0 ⊢
    have ht1 : least a0 (l.take 1) = a0 := by
      rw [show (1 : Nat) = 0 + 1 from rfl, least_next hn ha0]; simp [least]
    refine Tr.skip ?_
    try simp only [blockK, thenK, ↓reduceIte]
    first | refine tr_seq_region (by rw [hE]; rfl) ?_ | (refine Tr.seq ?_; refine tr_seq_region (by rw [hE]; rfl) ?_)
    repeat (refine vc_op rfl ?_; simp only [show nth (l.map Att.av) 0 = some a0.av from h0, go_sem, ↓Nat.reduceBEq, ↓Nat.reduceAdd, ↓Nat.reduceMul, ↓Nat.reduceEqDiff, ↓Nat.reducePow, ↓Nat.reduceLeDiff, ↓Nat.reduceLT, ↓Int.reduceLE, ↓Int.reduceLT, ↓reduceIte, ↓reduceCtorEq])
    refine vc_nil ?_
    refine Tr.seq ?_
    first | refine tr_seq_region (by rw [hE]; rfl) ?_ | (refine Tr.seq ?_; refine tr_seq_region (by rw [hE]; rfl) ?_)
    repeat (refine vc_op rfl ?_; simp only [go_sem, ↓Nat.reduceBEq, ↓Nat.reduceAdd, ↓Nat.reduceMul, ↓Nat.reduceEqDiff, ↓Nat.reducePow, ↓Nat.reduceLeDiff, ↓Nat.reduceLT, ↓Int.reduceLE, ↓Int.reduceLT, ↓reduceIte, ↓reduceCtorEq])
    refine vc_nil ?_
    refine Tr.block ?_
    refine Tr.loop (st34 l a0) (fun i => i ≤ l.length) (fun i => l.length - i) 1 hn ?_ ?_
    · unfold st34
      rw [ht1]
      refine wk_ren (fun n => n) ?_ ?_ rfl rfl rfl
      · repeat' (first | exact rfl | exact trivial | constructor)
      · repeat' (first | exact rfl | exact trivial | constructor)
    · intro i hi
      unfold st34
      refine Tr.seq ?_
      first | refine tr_seq_region (by rw [hE]; rfl) ?_ | (refine Tr.seq ?_; refine tr_seq_region (by rw [hE]; rfl) ?_)
      repeat (refine vc_op rfl ?_; simp only [go_sem, ↓Nat.reduceBEq, ↓Nat.reduceAdd, ↓Nat.reduceMul, ↓Nat.reduceEqDiff, ↓Nat.reducePow, ↓Nat.reduceLeDiff, ↓Nat.reduceLT, ↓Int.reduceLE, ↓Int.reduceLT, ↓reduceIte, ↓reduceCtorEq])
      refine vc_nil ?_
      refine Tr.cond rfl (fun h2 => ?_) (fun h2 => ?_)
      · refine Tr.skip ?_
        try simp only [blockK, thenK, ↓reduceIte]
        have hlt : i < l.length := by have := of_decide_eq_true h2; omega
        have ha := nth_map_lt Att.av l i hlt
        have hw := wrap_next (n := i) (by omega)
        generalize hla : l[i] = a at ha
        have hnx := least_next (a0 := a0) hlt hla
        generalize hm : least a0 (l.take i) = m at hnx ⊢
        refine Tr.seq ?_
        refine Tr.block ?_
        first | refine tr_seq_region (by rw [hE]; rfl) ?_ | (refine Tr.seq ?_; refine tr_seq_region (by rw [hE]; rfl) ?_)
        repeat (refine vc_op rfl ?_; simp only [ha, go_sem, ↓Nat.reduceBEq, ↓Nat.reduceAdd, ↓Nat.reduceMul, ↓Nat.reduceEqDiff, ↓Nat.reducePow, ↓Nat.reduceLeDiff, ↓Nat.reduceLT, ↓Int.reduceLE, ↓Int.reduceLT, ↓reduceIte, ↓reduceCtorEq])
        refine vc_nil ?_
        refine Tr.cond rfl (fun h3 => ?_) (fun h3 => ?_)
        · rw [if_pos (of_decide_eq_true h3)] at hnx
          refine tr_region (by rw [hE]; rfl) ?_
          repeat (refine vc_op rfl ?_; simp only [ha, go_sem, ↓Nat.reduceBEq, ↓Nat.reduceAdd, ↓Nat.reduceMul, ↓Nat.reduceEqDiff, ↓Nat.reducePow, ↓Nat.reduceLeDiff, ↓Nat.reduceLT, ↓Int.reduceLE, ↓Int.reduceLT, ↓reduceIte, ↓reduceCtorEq])
          refine vc_nil ?_
          try simp only [blockK, thenK, ↓reduceIte]
          refine tr_region (by rw [hE]; rfl) ?_
          repeat (refine vc_op rfl ?_; simp only [hw, go_sem, ↓Nat.reduceBEq, ↓Nat.reduceAdd, ↓Nat.reduceMul, ↓Nat.reduceEqDiff, ↓Nat.reducePow, ↓Nat.reduceLeDiff, ↓Nat.reduceLT, ↓Int.reduceLE, ↓Int.reduceLT, ↓reduceIte, ↓reduceCtorEq])
          refine vc_nil ?_
          try simp only [blockK, thenK, ↓reduceIte]
          refine ⟨i + 1, hlt, by omega, ?_⟩
          rw [hnx]
          refine wk_ren (fun n => n) ?_ ?_ rfl rfl rfl
          · repeat' (first | exact rfl | exact trivial | constructor)
          · repeat' (first | exact rfl | exact trivial | constructor)
        · rw [if_neg (of_decide_eq_false h3)] at hnx
          refine Tr.skip ?_
          try simp only [blockK, thenK, ↓reduceIte]
          refine tr_region (by rw [hE]; rfl) ?_
          repeat (refine vc_op rfl ?_; simp only [hw, go_sem, ↓Nat.reduceBEq, ↓Nat.reduceAdd, ↓Nat.reduceMul, ↓Nat.reduceEqDiff, ↓Nat.reducePow, ↓Nat.reduceLeDiff, ↓Nat.reduceLT, ↓Int.reduceLE, ↓Int.reduceLT, ↓reduceIte, ↓reduceCtorEq])
          refine vc_nil ?_
          try simp only [blockK, thenK, ↓reduceIte]
          refine ⟨i + 1, hlt, by omega, ?_⟩
          rw [hnx]
          refine wk_ren (fun n => n) ?_ ?_ rfl rfl rfl
          · repeat' (first | exact rfl | exact trivial | constructor)
          · repeat' (first | exact rfl | exact trivial | constructor)
      · refine Tr.exit ?_
        try simp only [blockK, thenK, ↓reduceIte]
        have hil : i = l.length := by
          have := of_decide_eq_false h2
          omega
        subst hil
        rw [List.take_length]
        first | refine tr_seq_region (by rw [hE]; rfl) ?_ | (refine Tr.seq ?_; refine tr_seq_region (by rw [hE]; rfl) ?_)
        repeat (refine vc_op rfl ?_; simp only [go_sem, ↓Nat.reduceBEq, ↓Nat.reduceAdd, ↓Nat.reduceMul, ↓Nat.reduceEqDiff, ↓Nat.reducePow, ↓Nat.reduceLeDiff, ↓Nat.reduceLT, ↓Int.reduceLE, ↓Int.reduceLT, ↓reduceIte, ↓reduceCtorEq])
        refine vc_nil ?_
        refine Tr.ret ?_
        simp only [Try.f34, go_sem, ↓Nat.reduceBEq, ↓Nat.reduceAdd, ↓Nat.reduceMul, ↓Nat.reduceEqDiff, ↓Nat.reducePow, ↓Nat.reduceLeDiff, ↓Nat.reduceLT, ↓Int.reduceLE, ↓Int.reduceLT, ↓reduceIte, ↓reduceCtorEq]

def st35 (l k : List Att) (i : Nat) : S where
  fr := [(5, .int .i64 i), (0, .sl (l.map Att.av) false), (1, .sl (k.map Att.av) false)]
  hp := []
  nx := 0

theorem RSame_pure (l k : List Att) (hl : l.length ≤ 100) : Pure Try.prog 35 [atts l, atts k] (.bool (decide (l = k))) := by
  unfold atts
  refine pure_of_tr Try.func35 rfl (Nat.le_of_ble_eq_true rfl) rfl fun E hE => ?_
  first | refine tr_seq_region (by rw [hE]; rfl) ?_ | (refine Tr.seq ?_; refine tr_seq_region (by rw [hE]; rfl) ?_)
  repeat (refine vc_op rfl ?_; simp only [go_sem, ↓Nat.reduceBEq, ↓Nat.reduceAdd, ↓Nat.reduceMul, ↓Nat.reduceEqDiff, ↓Nat.reducePow, ↓Nat.reduceLeDiff, ↓Nat.reduceLT, ↓Int.reduceLE, ↓Int.reduceLT, ↓reduceIte, ↓reduceCtorEq])
  refine vc_nil ?_
  refine Tr.seq ?_
  first | refine tr_seq_region (by rw [hE]; rfl) ?_ | (refine Tr.seq ?_; refine tr_seq_region (by rw [hE]; rfl) ?_)
  repeat (refine vc_op rfl ?_; simp only [go_sem, ↓Nat.reduceBEq, ↓Nat.reduceAdd, ↓Nat.reduceMul, ↓Nat.reduceEqDiff, ↓Nat.reducePow, ↓Nat.reduceLeDiff, ↓Nat.reduceLT, ↓Int.reduceLE, ↓Int.reduceLT, ↓reduceIte, ↓reduceCtorEq])
  refine vc_nil ?_
  refine Tr.cond rfl (fun h1 => ?_) (fun h1 => ?_)
  · have hlk : decide (l = k) = false := by
      simp only [decide_eq_false_iff_not]
      rintro rfl
      simp at h1
    first | refine tr_seq_region (by rw [hE]; rfl) ?_ | (refine Tr.seq ?_; refine tr_seq_region (by rw [hE]; rfl) ?_)
    repeat (refine vc_op rfl ?_; simp only [go_sem, ↓Nat.reduceBEq, ↓Nat.reduceAdd, ↓Nat.reduceMul, ↓Nat.reduceEqDiff, ↓Nat.reducePow, ↓Nat.reduceLeDiff, ↓Nat.reduceLT, ↓Int.reduceLE, ↓Int.reduceLT, ↓reduceIte, ↓reduceCtorEq])
    refine vc_nil ?_
    refine Tr.ret ?_
    simp only [hlk, Try.f35, go_sem, ↓Nat.reduceBEq, ↓Nat.reduceAdd, ↓Nat.reduceMul, ↓Nat.reduceEqDiff, ↓Nat.reducePow, ↓Nat.reduceLeDiff, ↓Nat.reduceLT, ↓Int.reduceLE, ↓Int.reduceLT, ↓reduceIte, ↓reduceCtorEq]
  · have hne : l.length = k.length := by simp at h1; omega
    refine Tr.skip ?_
    try simp only [blockK, thenK, ↓reduceIte]
    refine Tr.seq ?_
    first | refine tr_seq_region (by rw [hE]; rfl) ?_ | (refine Tr.seq ?_; refine tr_seq_region (by rw [hE]; rfl) ?_)
    repeat (refine vc_op rfl ?_; simp only [go_sem, ↓Nat.reduceBEq, ↓Nat.reduceAdd, ↓Nat.reduceMul, ↓Nat.reduceEqDiff, ↓Nat.reducePow, ↓Nat.reduceLeDiff, ↓Nat.reduceLT, ↓Int.reduceLE, ↓Int.reduceLT, ↓reduceIte, ↓reduceCtorEq])
    refine vc_nil ?_
    refine Tr.block ?_
    refine Tr.loop (st35 l k) (fun i => i ≤ l.length ∧ ∀ j (h1 : j < l.length) (h2 : j < k.length), j < i → l[j] = k[j]) (fun i => l.length - i) 0 ⟨Nat.zero_le _, fun _ _ _ h => by omega⟩ ?_ ?_
    · refine wk_ren (fun n => n) ?_ ?_ rfl rfl rfl
      · repeat' (first | exact rfl | exact trivial | constructor)
      · repeat' (first | exact rfl | exact trivial | constructor)
    · intro i ⟨hi, hbefore⟩
      unfold st35
      refine Tr.seq ?_
      first | refine tr_seq_region (by rw [hE]; rfl) ?_ | (refine Tr.seq ?_; refine tr_seq_region (by rw [hE]; rfl) ?_)
      repeat (refine vc_op rfl ?_; simp only [go_sem, ↓Nat.reduceBEq, ↓Nat.reduceAdd, ↓Nat.reduceMul, ↓Nat.reduceEqDiff, ↓Nat.reducePow, ↓Nat.reduceLeDiff, ↓Nat.reduceLT, ↓Int.reduceLE, ↓Int.reduceLT, ↓reduceIte, ↓reduceCtorEq])
      refine vc_nil ?_
      refine Tr.cond rfl (fun h2 => ?_) (fun h2 => ?_)
      · refine Tr.skip ?_
        try simp only [blockK, thenK, ↓reduceIte]
        have hlt : i < l.length := by have := of_decide_eq_true h2; omega
        have ha := nth_map_lt Att.av l i hlt
        have hc := nth_map_lt Att.av k i (by omega)
        generalize hla : l[i] = a at ha
        generalize hkc : k[i]'(by omega) = c at hc
        have hw := wrap_next (n := i) (by omega)
        refine Tr.seq ?_
        refine Tr.block ?_
        first | refine tr_seq_drawn mixed [] rfl (by rw [hE]; rfl) (by kernel_rfl) ?_ | (refine Tr.seq ?_; refine tr_seq_drawn mixed [] rfl (by rw [hE]; rfl) (by kernel_rfl) ?_)
        repeat (first | (refine vd_q rfl rfl ?_; simp only [ha, hc, go_sem, ↓Nat.reduceBEq, ↓Nat.reduceAdd, ↓Nat.reduceMul, ↓Nat.reduceEqDiff, ↓Nat.reducePow, ↓Nat.reduceLeDiff, ↓Nat.reduceLT, ↓Int.reduceLE, ↓Int.reduceLT, ↓reduceIte, ↓reduceCtorEq]) | (refine vd_x rfl rfl ?_; simp only [ha, hc, go_sem, ↓Nat.reduceBEq, ↓Nat.reduceAdd, ↓Nat.reduceMul, ↓Nat.reduceEqDiff, ↓Nat.reducePow, ↓Nat.reduceLeDiff, ↓Nat.reduceLT, ↓Int.reduceLE, ↓Int.reduceLT, ↓reduceIte, ↓reduceCtorEq]) | (refine vd_goq rfl rfl rfl rfl ?_; simp only [ha, hc, go_sem, ↓Nat.reduceBEq, ↓Nat.reduceAdd, ↓Nat.reduceMul, ↓Nat.reduceEqDiff, ↓Nat.reducePow, ↓Nat.reduceLeDiff, ↓Nat.reduceLT, ↓Int.reduceLE, ↓Int.reduceLT, ↓reduceIte, ↓reduceCtorEq]) | (refine vd_gox rfl rfl rfl rfl ?_; simp only [ha, hc, go_sem, ↓Nat.reduceBEq, ↓Nat.reduceAdd, ↓Nat.reduceMul, ↓Nat.reduceEqDiff, ↓Nat.reducePow, ↓Nat.reduceLeDiff, ↓Nat.reduceLT, ↓Int.reduceLE, ↓Int.reduceLT, ↓reduceIte, ↓reduceCtorEq]) | (refine vd_no rfl rfl rfl ?_; simp only [ha, hc, go_sem, ↓Nat.reduceBEq, ↓Nat.reduceAdd, ↓Nat.reduceMul, ↓Nat.reduceEqDiff, ↓Nat.reducePow, ↓Nat.reduceLeDiff, ↓Nat.reduceLT, ↓Int.reduceLE, ↓Int.reduceLT, ↓reduceIte, ↓reduceCtorEq]) | (refine vd_skip rfl rfl rfl ?_; simp only [ha, hc, go_sem, ↓Nat.reduceBEq, ↓Nat.reduceAdd, ↓Nat.reduceMul, ↓Nat.reduceEqDiff, ↓Nat.reducePow, ↓Nat.reduceLeDiff, ↓Nat.reduceLT, ↓Int.reduceLE, ↓Int.reduceLT, ↓reduceIte, ↓reduceCtorEq]))
        refine vd_nil ?_
        refine Tr.cond rfl (fun h3 => ?_) (fun h3 => ?_)
        · have hac : a ≠ c := by simpa using h3
          have hlk : decide (l = k) = false := by
            simp only [decide_eq_false_iff_not]
            rintro rfl
            exact hac (hla.symm.trans hkc)
          first | refine tr_seq_region (by rw [hE]; rfl) ?_ | (refine Tr.seq ?_; refine tr_seq_region (by rw [hE]; rfl) ?_)
          repeat (refine vc_op rfl ?_; simp only [go_sem, ↓Nat.reduceBEq, ↓Nat.reduceAdd, ↓Nat.reduceMul, ↓Nat.reduceEqDiff, ↓Nat.reducePow, ↓Nat.reduceLeDiff, ↓Nat.reduceLT, ↓Int.reduceLE, ↓Int.reduceLT, ↓reduceIte, ↓reduceCtorEq])
          refine vc_nil ?_
          refine Tr.ret ?_
          simp only [hlk, Try.f35, go_sem, ↓Nat.reduceBEq, ↓Nat.reduceAdd, ↓Nat.reduceMul, ↓Nat.reduceEqDiff, ↓Nat.reducePow, ↓Nat.reduceLeDiff, ↓Nat.reduceLT, ↓Int.reduceLE, ↓Int.reduceLT, ↓reduceIte, ↓reduceCtorEq]
        · have hac : a = c := by simpa using h3
          refine Tr.skip ?_
          try simp only [blockK, thenK, ↓reduceIte]
          refine tr_region (by rw [hE]; rfl) ?_
          repeat (refine vc_op rfl ?_; simp only [hw, go_sem, ↓Nat.reduceBEq, ↓Nat.reduceAdd, ↓Nat.reduceMul, ↓Nat.reduceEqDiff, ↓Nat.reducePow, ↓Nat.reduceLeDiff, ↓Nat.reduceLT, ↓Int.reduceLE, ↓Int.reduceLT, ↓reduceIte, ↓reduceCtorEq])
          refine vc_nil ?_
          try simp only [blockK, thenK, ↓reduceIte]
          refine ⟨i + 1, ⟨hlt, fun j h1 h2 hji => ?_⟩, by omega, ?_⟩
          · by_cases h : j = i
            · subst h; rw [hla, hkc]; exact hac
            · exact hbefore j h1 h2 (by omega)
          · refine wk_ren (fun n => n) ?_ ?_ rfl rfl rfl
            · repeat' (first | exact rfl | exact trivial | constructor)
            · repeat' (first | exact rfl | exact trivial | constructor)
      · refine Tr.exit ?_
        try simp only [blockK, thenK, ↓reduceIte]
        have hil : i = l.length := by
          have := of_decide_eq_false h2
          omega
        subst hil
        have hlk : decide (l = k) = true := by
          simp only [decide_eq_true_eq]
          exact eq_of_get hne fun j h1 h2 => hbefore j h1 h2 h1
        first | refine tr_seq_region (by rw [hE]; rfl) ?_ | (refine Tr.seq ?_; refine tr_seq_region (by rw [hE]; rfl) ?_)
        repeat (refine vc_op rfl ?_; simp only [go_sem, ↓Nat.reduceBEq, ↓Nat.reduceAdd, ↓Nat.reduceMul, ↓Nat.reduceEqDiff, ↓Nat.reducePow, ↓Nat.reduceLeDiff, ↓Nat.reduceLT, ↓Int.reduceLE, ↓Int.reduceLT, ↓reduceIte, ↓reduceCtorEq])
        refine vc_nil ?_
        refine Tr.ret ?_
        simp only [hlk, Try.f35, go_sem, ↓Nat.reduceBEq, ↓Nat.reduceAdd, ↓Nat.reduceMul, ↓Nat.reduceEqDiff, ↓Nat.reducePow, ↓Nat.reduceLeDiff, ↓Nat.reduceLT, ↓Int.reduceLE, ↓Int.reduceLT, ↓reduceIte, ↓reduceCtorEq]
