/- The document's writer of a root. -/
import Derived.Test.YtpcegpfbmmgbbaaWiU
set_option linter.unusedSimpArgs false
namespace Go.Proofs.Ytpcegpfbmmgbbaa
open Go Go.Ab

theorem root_len (r : Root) : r.1.length = 32 := r.2
def st41 (r : Root) (L : List UInt8) (m : Option Nat) (i : Nat) : S where
  fr := [(5, .int .i64 i), (0, gV m (L ++ r.1.take i)), (3, .ptr 2 [] 0)]
  hp := (2, .var (.root r)) :: gH m (L ++ r.1.take i)
  nx := 3

set_option maxHeartbeats 4000000 in
set_option maxRecDepth 4000 in
theorem rroot_own (L : List UInt8) (r : Root) (hL : L.length ≤ 1000) : Eff Try.prog 41 [.sl (L.map bav) true, .root r] 0 [] (.ms 0 1 (L.length + 32)) [(0, .row 1 ((L ++ r.1).map bav))] := by
  refine eff_of_tr Try.func41 rfl (Nat.le_of_ble_eq_true rfl) (by first | rfl | (simp only [AV.idsB, AV.idsBL, Bool.and_true, Bool.true_and] <;> rfl)) fun E hE hP => ?_
  first | refine tr_seq_region (by rw [hE]; rfl) ?_ | (refine Tr.seq ?_; refine tr_seq_region (by rw [hE]; rfl) ?_)
  repeat (refine vc_op rfl ?_; simp only [go_sem, ↓Nat.reduceBEq, ↓Nat.reduceAdd, ↓Nat.reduceSub, ↓Nat.reduceMul, ↓Nat.reduceEqDiff, ↓Nat.reducePow, ↓Nat.reduceLeDiff, ↓Nat.reduceLT, ↓Int.reduceLE, ↓Int.reduceLT, ↓reduceIte, ↓reduceCtorEq])
  refine vc_nil ?_
  first | refine tr_seq_region (by rw [hE]; rfl) ?_ | (refine Tr.seq ?_; refine tr_seq_region (by rw [hE]; rfl) ?_)
  repeat (refine vc_op rfl ?_; simp only [go_sem, ↓Nat.reduceBEq, ↓Nat.reduceAdd, ↓Nat.reduceSub, ↓Nat.reduceMul, ↓Nat.reduceEqDiff, ↓Nat.reducePow, ↓Nat.reduceLeDiff, ↓Nat.reduceLT, ↓Int.reduceLE, ↓Int.reduceLT, ↓reduceIte, ↓reduceCtorEq])
  refine vc_nil ?_
  first | refine Tr.block ?_ | (refine Tr.seq ?_; refine Tr.block ?_)
  refine Tr.loop (fun p : Option Nat × Nat => st41 r L p.1 p.2) (fun p => p.2 ≤ 32 ∧ (p.1 = none ∧ p.2 = 0 ∨ p.1 = some 1)) (fun p => 32 - p.2) (none, 0) ⟨Nat.zero_le _, .inl ⟨rfl, rfl⟩⟩ ?_ ?_
  · have e : L ++ r.1.take 0 = L := by simp
    show Wk E _ (st41 r L none 0)
    unfold st41
    rw [e]
    unfold gV gH
    refine wk_ren (fun | 2 => 0 | n => n) ?_ ?_ rfl rfl rfl
    · repeat' (first | exact rfl | exact trivial | constructor)
    · repeat' (first | exact rfl | exact trivial | constructor)
  · rintro ⟨m, i⟩ ⟨hi, hm⟩
    simp only at hi hm
    show Tr _ _ _ _ (st41 r L m i) _
    unfold st41
    first | refine tr_seq_region (by rw [hE]; rfl) ?_ | (refine Tr.seq ?_; refine tr_seq_region (by rw [hE]; rfl) ?_)
    repeat (refine vc_op rfl ?_; simp only [go_sem, ↓Nat.reduceBEq, ↓Nat.reduceAdd, ↓Nat.reduceSub, ↓Nat.reduceMul, ↓Nat.reduceEqDiff, ↓Nat.reducePow, ↓Nat.reduceLeDiff, ↓Nat.reduceLT, ↓Int.reduceLE, ↓Int.reduceLT, ↓reduceIte, ↓reduceCtorEq])
    refine vc_nil ?_
    first | refine Tr.cond rfl (fun h1 => ?_) (fun h1 => ?_) | refine Tr.seq (Tr.cond rfl (fun h1 => ?_) (fun h1 => ?_))
    · rcases hm with ⟨rfl, _⟩ | rfl
      · have hi8 : i < 32 := by have := of_decide_eq_true h1; omega
        have hlt : i < r.1.length := by rw [root_len]; exact hi8
        have hnx : r.1.take (i + 1) = r.1.take i ++ [r.1[i]] := take_next hlt rfl
        have hat : r.1[i]? = some r.1[i] := List.getElem?_eq_getElem hlt
        have hw := wrap_next (n := i) (by omega)
        have hlen : (L ++ r.1.take i).length ≤ 2000 := by rw [List.length_append, List.length_take]; omega
        generalize hB : L ++ r.1.take i = B at hlen
        generalize hx : r.1[i] = x at hat hnx
        have hbx : AV.int .u8 x.toNat = bav x := rfl
        have q1 : gV none B = .sl (B.map bav) true := rfl
        have q2 : gH none B = [] := rfl
        rw [q1, q2]
        refine Tr.skip ?_
        try simp only [blockK, thenK, ↓reduceIte]
        first | refine Tr.block ?_ | (refine Tr.seq ?_; refine Tr.block ?_)
        apply tr_ml (by rw [hE]; rfl)
        intro Q hQ
        simp only [List.toList_toArray, List.map_cons, List.map_nil, mo, guardSlot, Option.map_some, Option.map_none, List.getElem?_toArray, List.getElem?_cons_succ, List.getElem?_cons_zero, Option.bind_some]
        (refine vm_op ?_); intro r hr; simp only [go_sem, ↓Nat.reduceBEq, ↓Nat.reduceAdd, ↓Nat.reduceSub, ↓Nat.reduceMul, ↓Nat.reduceEqDiff, ↓Nat.reducePow, ↓Nat.reduceLeDiff, ↓Nat.reduceLT, ↓Int.reduceLE, ↓Int.reduceLT, ↓reduceIte, ↓reduceCtorEq]; subst hr
        (refine vm_op ?_); intro r hr; simp only [go_sem, ↓Nat.reduceBEq, ↓Nat.reduceAdd, ↓Nat.reduceSub, ↓Nat.reduceMul, ↓Nat.reduceEqDiff, ↓Nat.reducePow, ↓Nat.reduceLeDiff, ↓Nat.reduceLT, ↓Int.reduceLE, ↓Int.reduceLT, ↓reduceIte, ↓reduceCtorEq]; subst hr
        (refine vm_op ?_); intro r hr; simp only [go_sem, ↓Nat.reduceBEq, ↓Nat.reduceAdd, ↓Nat.reduceSub, ↓Nat.reduceMul, ↓Nat.reduceEqDiff, ↓Nat.reducePow, ↓Nat.reduceLeDiff, ↓Nat.reduceLT, ↓Int.reduceLE, ↓Int.reduceLT, ↓reduceIte, ↓reduceCtorEq]; subst hr
        refine ⟨by omega, by omega, ?_⟩
        rw [Int.toNat_natCast]
        (refine vm_op ?_); intro r hr; simp only [hat, Nat.mul_one, go_sem, ↓Nat.reduceBEq, ↓Nat.reduceAdd, ↓Nat.reduceSub, ↓Nat.reduceMul, ↓Nat.reduceEqDiff, ↓Nat.reducePow, ↓Nat.reduceLeDiff, ↓Nat.reduceLT, ↓Int.reduceLE, ↓Int.reduceLT, ↓reduceIte, ↓reduceCtorEq]; subst hr
        (refine vm_op ?_); intro r hr; simp only [hbx, go_sem, ↓Nat.reduceBEq, ↓Nat.reduceAdd, ↓Nat.reduceSub, ↓Nat.reduceMul, ↓Nat.reduceEqDiff, ↓Nat.reducePow, ↓Nat.reduceLeDiff, ↓Nat.reduceLT, ↓Int.reduceLE, ↓Int.reduceLT, ↓reduceIte, ↓reduceCtorEq]; subst hr
        (refine vm_op ?_); intro r hr; simp only [List.filter_cons, List.filter_nil, go_sem, ↓Nat.reduceBEq, ↓Nat.reduceAdd, ↓Nat.reduceSub, ↓Nat.reduceMul, ↓Nat.reduceEqDiff, ↓Nat.reducePow, ↓Nat.reduceLeDiff, ↓Nat.reduceLT, ↓Int.reduceLE, ↓Int.reduceLT, ↓reduceIte, ↓reduceCtorEq]; subst hr
        refine ⟨lens_bav B, by omega, by omega, .inr (by simp), ?_⟩
        rw [show List.map bav B ++ [bav x] = (B ++ [x]).map bav from (List.map_append (f := bav) (l₁ := B) (l₂ := [x])).symm]
        (refine vm_op ?_); intro r hr; simp only [go_sem, ↓Nat.reduceBEq, ↓Nat.reduceAdd, ↓Nat.reduceSub, ↓Nat.reduceMul, ↓Nat.reduceEqDiff, ↓Nat.reducePow, ↓Nat.reduceLeDiff, ↓Nat.reduceLT, ↓Int.reduceLE, ↓Int.reduceLT, ↓reduceIte, ↓reduceCtorEq]; subst hr
        exact hQ
        try simp only [blockK, thenK, ↓reduceIte]
        refine tr_region (by rw [hE]; rfl) ?_
        repeat (refine vc_op rfl ?_; simp only [hw, go_sem, ↓Nat.reduceBEq, ↓Nat.reduceAdd, ↓Nat.reduceSub, ↓Nat.reduceMul, ↓Nat.reduceEqDiff, ↓Nat.reducePow, ↓Nat.reduceLeDiff, ↓Nat.reduceLT, ↓Int.reduceLE, ↓Int.reduceLT, ↓reduceIte, ↓reduceCtorEq])
        refine vc_nil ?_
        try simp only [blockK, thenK, ↓reduceIte]
        refine ⟨(some 1, i + 1), ⟨by omega, .inr rfl⟩, by simp only; omega, ?_⟩
        show Wk _ _ (st41 r L (some 1) (i + 1))
        unfold st41
        rw [hnx, ← List.append_assoc, hB]
        have e : gV (some 1) (B ++ [x]) = .ms 1 1 (B.length + 1) := by
          unfold gV
          rw [List.length_append]
          rfl
        rw [e]
        unfold gH
        refine wk_ren (fun | 1 => 115 | n => n) ?_ ?_ rfl rfl rfl
        · repeat' (first | exact rfl | exact trivial | constructor)
        · repeat' (first | exact rfl | exact trivial | constructor)
      · have hi8 : i < 32 := by have := of_decide_eq_true h1; omega
        have hlt : i < r.1.length := by rw [root_len]; exact hi8
        have hnx : r.1.take (i + 1) = r.1.take i ++ [r.1[i]] := take_next hlt rfl
        have hat : r.1[i]? = some r.1[i] := List.getElem?_eq_getElem hlt
        have hw := wrap_next (n := i) (by omega)
        have hlen : (L ++ r.1.take i).length ≤ 2000 := by rw [List.length_append, List.length_take]; omega
        generalize hB : L ++ r.1.take i = B at hlen
        generalize hx : r.1[i] = x at hat hnx
        have hbx : AV.int .u8 x.toNat = bav x := rfl
        have q1 : gV (some 1) B = .ms 1 1 B.length := rfl
        have q2 : gH (some 1) B = [(1, .row 1 (B.map bav))] := rfl
        rw [q1, q2]
        refine Tr.skip ?_
        try simp only [blockK, thenK, ↓reduceIte]
        first | refine Tr.block ?_ | (refine Tr.seq ?_; refine Tr.block ?_)
        apply tr_ml (by rw [hE]; rfl)
        intro Q hQ
        simp only [List.toList_toArray, List.map_cons, List.map_nil, mo, guardSlot, Option.map_some, Option.map_none, List.getElem?_toArray, List.getElem?_cons_succ, List.getElem?_cons_zero, Option.bind_some]
        (refine vm_op ?_); intro r hr; simp only [go_sem, ↓Nat.reduceBEq, ↓Nat.reduceAdd, ↓Nat.reduceSub, ↓Nat.reduceMul, ↓Nat.reduceEqDiff, ↓Nat.reducePow, ↓Nat.reduceLeDiff, ↓Nat.reduceLT, ↓Int.reduceLE, ↓Int.reduceLT, ↓reduceIte, ↓reduceCtorEq]; subst hr
        (refine vm_op ?_); intro r hr; simp only [go_sem, ↓Nat.reduceBEq, ↓Nat.reduceAdd, ↓Nat.reduceSub, ↓Nat.reduceMul, ↓Nat.reduceEqDiff, ↓Nat.reducePow, ↓Nat.reduceLeDiff, ↓Nat.reduceLT, ↓Int.reduceLE, ↓Int.reduceLT, ↓reduceIte, ↓reduceCtorEq]; subst hr
        (refine vm_op ?_); intro r hr; simp only [go_sem, ↓Nat.reduceBEq, ↓Nat.reduceAdd, ↓Nat.reduceSub, ↓Nat.reduceMul, ↓Nat.reduceEqDiff, ↓Nat.reducePow, ↓Nat.reduceLeDiff, ↓Nat.reduceLT, ↓Int.reduceLE, ↓Int.reduceLT, ↓reduceIte, ↓reduceCtorEq]; subst hr
        refine ⟨by omega, by omega, ?_⟩
        rw [Int.toNat_natCast]
        (refine vm_op ?_); intro r hr; simp only [hat, Nat.mul_one, go_sem, ↓Nat.reduceBEq, ↓Nat.reduceAdd, ↓Nat.reduceSub, ↓Nat.reduceMul, ↓Nat.reduceEqDiff, ↓Nat.reducePow, ↓Nat.reduceLeDiff, ↓Nat.reduceLT, ↓Int.reduceLE, ↓Int.reduceLT, ↓reduceIte, ↓reduceCtorEq]; subst hr
        (refine vm_op ?_); intro r hr; simp only [hbx, go_sem, ↓Nat.reduceBEq, ↓Nat.reduceAdd, ↓Nat.reduceSub, ↓Nat.reduceMul, ↓Nat.reduceEqDiff, ↓Nat.reducePow, ↓Nat.reduceLeDiff, ↓Nat.reduceLT, ↓Int.reduceLE, ↓Int.reduceLT, ↓reduceIte, ↓reduceCtorEq]; subst hr
        (refine vm_op ?_); intro r hr; simp only [List.filter_cons, List.filter_nil, go_sem, ↓Nat.reduceBEq, ↓Nat.reduceAdd, ↓Nat.reduceSub, ↓Nat.reduceMul, ↓Nat.reduceEqDiff, ↓Nat.reducePow, ↓Nat.reduceLeDiff, ↓Nat.reduceLT, ↓Int.reduceLE, ↓Int.reduceLT, ↓reduceIte, ↓reduceCtorEq]; subst hr
        refine ⟨by omega, by omega, ?_⟩
        rw [show List.map bav B ++ [bav x] = (B ++ [x]).map bav from (List.map_append (f := bav) (l₁ := B) (l₂ := [x])).symm]
        (refine vm_op ?_); intro r hr; simp only [go_sem, ↓Nat.reduceBEq, ↓Nat.reduceAdd, ↓Nat.reduceSub, ↓Nat.reduceMul, ↓Nat.reduceEqDiff, ↓Nat.reducePow, ↓Nat.reduceLeDiff, ↓Nat.reduceLT, ↓Int.reduceLE, ↓Int.reduceLT, ↓reduceIte, ↓reduceCtorEq]; subst hr
        exact hQ
        try simp only [blockK, thenK, ↓reduceIte]
        refine tr_region (by rw [hE]; rfl) ?_
        repeat (refine vc_op rfl ?_; simp only [hw, go_sem, ↓Nat.reduceBEq, ↓Nat.reduceAdd, ↓Nat.reduceSub, ↓Nat.reduceMul, ↓Nat.reduceEqDiff, ↓Nat.reducePow, ↓Nat.reduceLeDiff, ↓Nat.reduceLT, ↓Int.reduceLE, ↓Int.reduceLT, ↓reduceIte, ↓reduceCtorEq])
        refine vc_nil ?_
        try simp only [blockK, thenK, ↓reduceIte]
        refine ⟨(some 1, i + 1), ⟨by omega, .inr rfl⟩, by simp only; omega, ?_⟩
        show Wk _ _ (st41 r L (some 1) (i + 1))
        unfold st41
        rw [hnx, ← List.append_assoc, hB]
        have e : gV (some 1) (B ++ [x]) = .ms 1 1 (B.length + 1) := by
          unfold gV
          rw [List.length_append]
          rfl
        rw [e]
        unfold gH
        refine wk_ren (fun | 1 => 115 | n => n) ?_ ?_ rfl rfl rfl
        · repeat' (first | exact rfl | exact trivial | constructor)
        · repeat' (first | exact rfl | exact trivial | constructor)
    · refine Tr.exit ?_
      try simp only [blockK, thenK, ↓reduceIte]
      have hil : i = 32 := by
        have := of_decide_eq_false h1
        omega
      have hmk : m = some 1 := by
        rcases hm with ⟨_, h⟩ | h
        · omega
        · exact h
      subst hil
      subst hmk
      have ht : r.1.take 32 = r.1 := List.take_of_length_le (by rw [root_len]; omega)
      have hl : (L ++ r.1).length = L.length + 32 := by rw [List.length_append, root_len]
      rw [ht, show gV (some 1) (L ++ r.1) = .ms 1 1 (L ++ r.1).length from rfl, show gH (some 1) (L ++ r.1) = [(1, .row 1 ((L ++ r.1).map bav))] from rfl, hl]
      first | refine tr_seq_region (by rw [hE]; rfl) ?_ | (refine Tr.seq ?_; refine tr_seq_region (by rw [hE]; rfl) ?_)
      repeat (refine vc_op rfl ?_; simp only [go_sem, ↓Nat.reduceBEq, ↓Nat.reduceAdd, ↓Nat.reduceSub, ↓Nat.reduceMul, ↓Nat.reduceEqDiff, ↓Nat.reducePow, ↓Nat.reduceLeDiff, ↓Nat.reduceLT, ↓Int.reduceLE, ↓Int.reduceLT, ↓reduceIte, ↓reduceCtorEq])
      refine vc_nil ?_
      refine Tr.ret ?_
      simp only [Try.f41, go_sem, ↓Nat.reduceBEq, ↓Nat.reduceAdd, ↓Nat.reduceSub, ↓Nat.reduceMul, ↓Nat.reduceEqDiff, ↓Nat.reducePow, ↓Nat.reduceLeDiff, ↓Nat.reduceLT, ↓Int.reduceLE, ↓Int.reduceLT, ↓reduceIte, ↓reduceCtorEq]
      exact ⟨fun | 0 => 1 | n => n, rfl, ⟨⟨rfl, rfl, rfl⟩, trivial⟩, rfl, fun _ h => absurd h (Nat.not_lt_zero _)⟩

set_option maxHeartbeats 4000000 in
set_option maxRecDepth 4000 in
theorem rroot_eff (L : List UInt8) (r : Root) (hL : L.length ≤ 1000) : Eff Try.prog 41 [.ms 0 1 L.length, .root r] 1 [(0, .row 1 (L.map bav))] (.ms 1 1 (L.length + 32)) [(1, .row 1 ((L ++ r.1).map bav))] := by
  refine eff_of_tr Try.func41 rfl (Nat.le_of_ble_eq_true rfl) (by first | rfl | (simp only [AV.idsB, AV.idsBL, Bool.and_true, Bool.true_and] <;> rfl)) fun E hE hP => ?_
  first | refine tr_seq_region (by rw [hE]; rfl) ?_ | (refine Tr.seq ?_; refine tr_seq_region (by rw [hE]; rfl) ?_)
  repeat (refine vc_op rfl ?_; simp only [go_sem, ↓Nat.reduceBEq, ↓Nat.reduceAdd, ↓Nat.reduceSub, ↓Nat.reduceMul, ↓Nat.reduceEqDiff, ↓Nat.reducePow, ↓Nat.reduceLeDiff, ↓Nat.reduceLT, ↓Int.reduceLE, ↓Int.reduceLT, ↓reduceIte, ↓reduceCtorEq])
  refine vc_nil ?_
  first | refine tr_seq_region (by rw [hE]; rfl) ?_ | (refine Tr.seq ?_; refine tr_seq_region (by rw [hE]; rfl) ?_)
  repeat (refine vc_op rfl ?_; simp only [go_sem, ↓Nat.reduceBEq, ↓Nat.reduceAdd, ↓Nat.reduceSub, ↓Nat.reduceMul, ↓Nat.reduceEqDiff, ↓Nat.reducePow, ↓Nat.reduceLeDiff, ↓Nat.reduceLT, ↓Int.reduceLE, ↓Int.reduceLT, ↓reduceIte, ↓reduceCtorEq])
  refine vc_nil ?_
  first | refine Tr.block ?_ | (refine Tr.seq ?_; refine Tr.block ?_)
  refine Tr.loop (fun p : Option Nat × Nat => st41 r L p.1 p.2) (fun p => p.2 ≤ 32 ∧ (p.1 = (some 0) ∧ p.2 = 0 ∨ p.1 = some 1)) (fun p => 32 - p.2) ((some 0), 0) ⟨Nat.zero_le _, .inl ⟨rfl, rfl⟩⟩ ?_ ?_
  · have e : L ++ r.1.take 0 = L := by simp
    show Wk E _ (st41 r L (some 0) 0)
    unfold st41
    rw [e]
    unfold gV gH
    refine wk_ren (fun | 2 => 1 | n => n) ?_ ?_ rfl rfl rfl
    · repeat' (first | exact rfl | exact trivial | constructor)
    · repeat' (first | exact rfl | exact trivial | constructor)
  · rintro ⟨m, i⟩ ⟨hi, hm⟩
    simp only at hi hm
    show Tr _ _ _ _ (st41 r L m i) _
    unfold st41
    first | refine tr_seq_region (by rw [hE]; rfl) ?_ | (refine Tr.seq ?_; refine tr_seq_region (by rw [hE]; rfl) ?_)
    repeat (refine vc_op rfl ?_; simp only [go_sem, ↓Nat.reduceBEq, ↓Nat.reduceAdd, ↓Nat.reduceSub, ↓Nat.reduceMul, ↓Nat.reduceEqDiff, ↓Nat.reducePow, ↓Nat.reduceLeDiff, ↓Nat.reduceLT, ↓Int.reduceLE, ↓Int.reduceLT, ↓reduceIte, ↓reduceCtorEq])
    refine vc_nil ?_
    first | refine Tr.cond rfl (fun h1 => ?_) (fun h1 => ?_) | refine Tr.seq (Tr.cond rfl (fun h1 => ?_) (fun h1 => ?_))
    · rcases hm with ⟨rfl, _⟩ | rfl
      · have hi8 : i < 32 := by have := of_decide_eq_true h1; omega
        have hlt : i < r.1.length := by rw [root_len]; exact hi8
        have hnx : r.1.take (i + 1) = r.1.take i ++ [r.1[i]] := take_next hlt rfl
        have hat : r.1[i]? = some r.1[i] := List.getElem?_eq_getElem hlt
        have hw := wrap_next (n := i) (by omega)
        have hlen : (L ++ r.1.take i).length ≤ 2000 := by rw [List.length_append, List.length_take]; omega
        generalize hB : L ++ r.1.take i = B at hlen
        generalize hx : r.1[i] = x at hat hnx
        have hbx : AV.int .u8 x.toNat = bav x := rfl
        have q1 : gV (some 0) B = .ms 0 1 B.length := rfl
        have q2 : gH (some 0) B = [(0, .row 1 (B.map bav))] := rfl
        rw [q1, q2]
        refine Tr.skip ?_
        try simp only [blockK, thenK, ↓reduceIte]
        first | refine Tr.block ?_ | (refine Tr.seq ?_; refine Tr.block ?_)
        apply tr_ml (by rw [hE]; rfl)
        intro Q hQ
        simp only [List.toList_toArray, List.map_cons, List.map_nil, mo, guardSlot, Option.map_some, Option.map_none, List.getElem?_toArray, List.getElem?_cons_succ, List.getElem?_cons_zero, Option.bind_some]
        (refine vm_op ?_); intro r hr; simp only [go_sem, ↓Nat.reduceBEq, ↓Nat.reduceAdd, ↓Nat.reduceSub, ↓Nat.reduceMul, ↓Nat.reduceEqDiff, ↓Nat.reducePow, ↓Nat.reduceLeDiff, ↓Nat.reduceLT, ↓Int.reduceLE, ↓Int.reduceLT, ↓reduceIte, ↓reduceCtorEq]; subst hr
        (refine vm_op ?_); intro r hr; simp only [go_sem, ↓Nat.reduceBEq, ↓Nat.reduceAdd, ↓Nat.reduceSub, ↓Nat.reduceMul, ↓Nat.reduceEqDiff, ↓Nat.reducePow, ↓Nat.reduceLeDiff, ↓Nat.reduceLT, ↓Int.reduceLE, ↓Int.reduceLT, ↓reduceIte, ↓reduceCtorEq]; subst hr
        (refine vm_op ?_); intro r hr; simp only [go_sem, ↓Nat.reduceBEq, ↓Nat.reduceAdd, ↓Nat.reduceSub, ↓Nat.reduceMul, ↓Nat.reduceEqDiff, ↓Nat.reducePow, ↓Nat.reduceLeDiff, ↓Nat.reduceLT, ↓Int.reduceLE, ↓Int.reduceLT, ↓reduceIte, ↓reduceCtorEq]; subst hr
        refine ⟨by omega, by omega, ?_⟩
        rw [Int.toNat_natCast]
        (refine vm_op ?_); intro r hr; simp only [hat, Nat.mul_one, go_sem, ↓Nat.reduceBEq, ↓Nat.reduceAdd, ↓Nat.reduceSub, ↓Nat.reduceMul, ↓Nat.reduceEqDiff, ↓Nat.reducePow, ↓Nat.reduceLeDiff, ↓Nat.reduceLT, ↓Int.reduceLE, ↓Int.reduceLT, ↓reduceIte, ↓reduceCtorEq]; subst hr
        (refine vm_op ?_); intro r hr; simp only [hbx, go_sem, ↓Nat.reduceBEq, ↓Nat.reduceAdd, ↓Nat.reduceSub, ↓Nat.reduceMul, ↓Nat.reduceEqDiff, ↓Nat.reducePow, ↓Nat.reduceLeDiff, ↓Nat.reduceLT, ↓Int.reduceLE, ↓Int.reduceLT, ↓reduceIte, ↓reduceCtorEq]; subst hr
        (refine vm_op ?_); intro r hr; simp only [List.filter_cons, List.filter_nil, go_sem, ↓Nat.reduceBEq, ↓Nat.reduceAdd, ↓Nat.reduceSub, ↓Nat.reduceMul, ↓Nat.reduceEqDiff, ↓Nat.reducePow, ↓Nat.reduceLeDiff, ↓Nat.reduceLT, ↓Int.reduceLE, ↓Int.reduceLT, ↓reduceIte, ↓reduceCtorEq]; subst hr
        refine ⟨by omega, by omega, ?_⟩
        rw [show List.map bav B ++ [bav x] = (B ++ [x]).map bav from (List.map_append (f := bav) (l₁ := B) (l₂ := [x])).symm]
        (refine vm_op ?_); intro r hr; simp only [go_sem, ↓Nat.reduceBEq, ↓Nat.reduceAdd, ↓Nat.reduceSub, ↓Nat.reduceMul, ↓Nat.reduceEqDiff, ↓Nat.reducePow, ↓Nat.reduceLeDiff, ↓Nat.reduceLT, ↓Int.reduceLE, ↓Int.reduceLT, ↓reduceIte, ↓reduceCtorEq]; subst hr
        exact hQ
        try simp only [blockK, thenK, ↓reduceIte]
        refine tr_region (by rw [hE]; rfl) ?_
        repeat (refine vc_op rfl ?_; simp only [hw, go_sem, ↓Nat.reduceBEq, ↓Nat.reduceAdd, ↓Nat.reduceSub, ↓Nat.reduceMul, ↓Nat.reduceEqDiff, ↓Nat.reducePow, ↓Nat.reduceLeDiff, ↓Nat.reduceLT, ↓Int.reduceLE, ↓Int.reduceLT, ↓reduceIte, ↓reduceCtorEq])
        refine vc_nil ?_
        try simp only [blockK, thenK, ↓reduceIte]
        refine ⟨(some 1, i + 1), ⟨by omega, .inr rfl⟩, by simp only; omega, ?_⟩
        show Wk _ _ (st41 r L (some 1) (i + 1))
        unfold st41
        rw [hnx, ← List.append_assoc, hB]
        have e : gV (some 1) (B ++ [x]) = .ms 1 1 (B.length + 1) := by
          unfold gV
          rw [List.length_append]
          rfl
        rw [e]
        unfold gH
        refine wk_ren (fun | 1 => 115 | n => n) ?_ ?_ rfl rfl rfl
        · repeat' (first | exact rfl | exact trivial | constructor)
        · repeat' (first | exact rfl | exact trivial | constructor)
      · have hi8 : i < 32 := by have := of_decide_eq_true h1; omega
        have hlt : i < r.1.length := by rw [root_len]; exact hi8
        have hnx : r.1.take (i + 1) = r.1.take i ++ [r.1[i]] := take_next hlt rfl
        have hat : r.1[i]? = some r.1[i] := List.getElem?_eq_getElem hlt
        have hw := wrap_next (n := i) (by omega)
        have hlen : (L ++ r.1.take i).length ≤ 2000 := by rw [List.length_append, List.length_take]; omega
        generalize hB : L ++ r.1.take i = B at hlen
        generalize hx : r.1[i] = x at hat hnx
        have hbx : AV.int .u8 x.toNat = bav x := rfl
        have q1 : gV (some 1) B = .ms 1 1 B.length := rfl
        have q2 : gH (some 1) B = [(1, .row 1 (B.map bav))] := rfl
        rw [q1, q2]
        refine Tr.skip ?_
        try simp only [blockK, thenK, ↓reduceIte]
        first | refine Tr.block ?_ | (refine Tr.seq ?_; refine Tr.block ?_)
        apply tr_ml (by rw [hE]; rfl)
        intro Q hQ
        simp only [List.toList_toArray, List.map_cons, List.map_nil, mo, guardSlot, Option.map_some, Option.map_none, List.getElem?_toArray, List.getElem?_cons_succ, List.getElem?_cons_zero, Option.bind_some]
        (refine vm_op ?_); intro r hr; simp only [go_sem, ↓Nat.reduceBEq, ↓Nat.reduceAdd, ↓Nat.reduceSub, ↓Nat.reduceMul, ↓Nat.reduceEqDiff, ↓Nat.reducePow, ↓Nat.reduceLeDiff, ↓Nat.reduceLT, ↓Int.reduceLE, ↓Int.reduceLT, ↓reduceIte, ↓reduceCtorEq]; subst hr
        (refine vm_op ?_); intro r hr; simp only [go_sem, ↓Nat.reduceBEq, ↓Nat.reduceAdd, ↓Nat.reduceSub, ↓Nat.reduceMul, ↓Nat.reduceEqDiff, ↓Nat.reducePow, ↓Nat.reduceLeDiff, ↓Nat.reduceLT, ↓Int.reduceLE, ↓Int.reduceLT, ↓reduceIte, ↓reduceCtorEq]; subst hr
        (refine vm_op ?_); intro r hr; simp only [go_sem, ↓Nat.reduceBEq, ↓Nat.reduceAdd, ↓Nat.reduceSub, ↓Nat.reduceMul, ↓Nat.reduceEqDiff, ↓Nat.reducePow, ↓Nat.reduceLeDiff, ↓Nat.reduceLT, ↓Int.reduceLE, ↓Int.reduceLT, ↓reduceIte, ↓reduceCtorEq]; subst hr
        refine ⟨by omega, by omega, ?_⟩
        rw [Int.toNat_natCast]
        (refine vm_op ?_); intro r hr; simp only [hat, Nat.mul_one, go_sem, ↓Nat.reduceBEq, ↓Nat.reduceAdd, ↓Nat.reduceSub, ↓Nat.reduceMul, ↓Nat.reduceEqDiff, ↓Nat.reducePow, ↓Nat.reduceLeDiff, ↓Nat.reduceLT, ↓Int.reduceLE, ↓Int.reduceLT, ↓reduceIte, ↓reduceCtorEq]; subst hr
        (refine vm_op ?_); intro r hr; simp only [hbx, go_sem, ↓Nat.reduceBEq, ↓Nat.reduceAdd, ↓Nat.reduceSub, ↓Nat.reduceMul, ↓Nat.reduceEqDiff, ↓Nat.reducePow, ↓Nat.reduceLeDiff, ↓Nat.reduceLT, ↓Int.reduceLE, ↓Int.reduceLT, ↓reduceIte, ↓reduceCtorEq]; subst hr
        (refine vm_op ?_); intro r hr; simp only [List.filter_cons, List.filter_nil, go_sem, ↓Nat.reduceBEq, ↓Nat.reduceAdd, ↓Nat.reduceSub, ↓Nat.reduceMul, ↓Nat.reduceEqDiff, ↓Nat.reducePow, ↓Nat.reduceLeDiff, ↓Nat.reduceLT, ↓Int.reduceLE, ↓Int.reduceLT, ↓reduceIte, ↓reduceCtorEq]; subst hr
        refine ⟨by omega, by omega, ?_⟩
        rw [show List.map bav B ++ [bav x] = (B ++ [x]).map bav from (List.map_append (f := bav) (l₁ := B) (l₂ := [x])).symm]
        (refine vm_op ?_); intro r hr; simp only [go_sem, ↓Nat.reduceBEq, ↓Nat.reduceAdd, ↓Nat.reduceSub, ↓Nat.reduceMul, ↓Nat.reduceEqDiff, ↓Nat.reducePow, ↓Nat.reduceLeDiff, ↓Nat.reduceLT, ↓Int.reduceLE, ↓Int.reduceLT, ↓reduceIte, ↓reduceCtorEq]; subst hr
        exact hQ
        try simp only [blockK, thenK, ↓reduceIte]
        refine tr_region (by rw [hE]; rfl) ?_
        repeat (refine vc_op rfl ?_; simp only [hw, go_sem, ↓Nat.reduceBEq, ↓Nat.reduceAdd, ↓Nat.reduceSub, ↓Nat.reduceMul, ↓Nat.reduceEqDiff, ↓Nat.reducePow, ↓Nat.reduceLeDiff, ↓Nat.reduceLT, ↓Int.reduceLE, ↓Int.reduceLT, ↓reduceIte, ↓reduceCtorEq])
        refine vc_nil ?_
        try simp only [blockK, thenK, ↓reduceIte]
        refine ⟨(some 1, i + 1), ⟨by omega, .inr rfl⟩, by simp only; omega, ?_⟩
        show Wk _ _ (st41 r L (some 1) (i + 1))
        unfold st41
        rw [hnx, ← List.append_assoc, hB]
        have e : gV (some 1) (B ++ [x]) = .ms 1 1 (B.length + 1) := by
          unfold gV
          rw [List.length_append]
          rfl
        rw [e]
        unfold gH
        refine wk_ren (fun | 1 => 115 | n => n) ?_ ?_ rfl rfl rfl
        · repeat' (first | exact rfl | exact trivial | constructor)
        · repeat' (first | exact rfl | exact trivial | constructor)
    · refine Tr.exit ?_
      try simp only [blockK, thenK, ↓reduceIte]
      have hil : i = 32 := by
        have := of_decide_eq_false h1
        omega
      have hmk : m = some 1 := by
        rcases hm with ⟨_, h⟩ | h
        · omega
        · exact h
      subst hil
      subst hmk
      have ht : r.1.take 32 = r.1 := List.take_of_length_le (by rw [root_len]; omega)
      have hl : (L ++ r.1).length = L.length + 32 := by rw [List.length_append, root_len]
      rw [ht, show gV (some 1) (L ++ r.1) = .ms 1 1 (L ++ r.1).length from rfl, show gH (some 1) (L ++ r.1) = [(1, .row 1 ((L ++ r.1).map bav))] from rfl, hl]
      first | refine tr_seq_region (by rw [hE]; rfl) ?_ | (refine Tr.seq ?_; refine tr_seq_region (by rw [hE]; rfl) ?_)
      repeat (refine vc_op rfl ?_; simp only [go_sem, ↓Nat.reduceBEq, ↓Nat.reduceAdd, ↓Nat.reduceSub, ↓Nat.reduceMul, ↓Nat.reduceEqDiff, ↓Nat.reducePow, ↓Nat.reduceLeDiff, ↓Nat.reduceLT, ↓Int.reduceLE, ↓Int.reduceLT, ↓reduceIte, ↓reduceCtorEq])
      refine vc_nil ?_
      refine Tr.ret ?_
      simp only [Try.f41, go_sem, ↓Nat.reduceBEq, ↓Nat.reduceAdd, ↓Nat.reduceSub, ↓Nat.reduceMul, ↓Nat.reduceEqDiff, ↓Nat.reducePow, ↓Nat.reduceLeDiff, ↓Nat.reduceLT, ↓Int.reduceLE, ↓Int.reduceLT, ↓reduceIte, ↓reduceCtorEq]
      exact ⟨fun n => n, rfl, ⟨⟨rfl, rfl, rfl⟩, trivial⟩, rfl, fun _ _ => rfl⟩
