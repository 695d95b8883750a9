/- Writing roots and numbers. -/
import Derived.Test.YtpcegpfbmmgbbaaWiC
set_option linter.unusedSimpArgs false
namespace Go.Proofs.Ytpcegpfbmmgbbaa
open Go Go.Ab

/-- What a writer holds: a literal (none), or bytes that grow, in an object. -/
def wrX (m : Option Nat) (l : List UInt8) : AV := .st [match m with | none => .sl (l.map bav) true | some o => .ms o 1 l.length]
def wrH (m : Option Nat) (l : List UInt8) : HP := match m with | none => [(0, .var (wrX none l))] | some o => [(0, .var (wrX (some o) l)), (o, .row 1 (l.map bav))]
@[go_sem] theorem wrX_sub0 (l : List UInt8) : (wrX none l).sub [0] = some (.sl (l.map bav) true) := rfl
@[go_sem] theorem wrX_sub1 (l : List UInt8) (o : Nat) : (wrX (some o) l).sub [0] = some (.ms o 1 l.length) := rfl
@[go_sem] theorem wrX_offs (m : Option Nat) (l : List UInt8) : (wrX m l).offs [0] = some 0 := by cases m <;> rfl
@[go_sem] theorem wrX_upd (m : Option Nat) (l : List UInt8) (o n : Nat) : (wrX m l).upd [0] (.ms o 1 n) = some (.st [.ms o 1 n]) := by cases m <;> rfl
def rootsB (rs : List Root) : List UInt8 := (rs.map (·.1)).flatten
theorem rootsB_next {rs : List Root} {i : Nat} {r : Root} (h : i < rs.length) (hb : rs[i] = r) : rootsB (rs.take (i + 1)) = rootsB (rs.take i) ++ r.1 := by
  rw [take_next h hb, rootsB, List.map_append, List.flatten_append]; simp [rootsB]
theorem rootsB_len (rs : List Root) : (rootsB rs).length = 32 * rs.length := by
  induction rs with
  | nil => rfl
  | cons r rs ih => 
    have := r.2
    simp [rootsB] at ih ⊢
    omega

def st39 (rs : List Root) (L : List UInt8) (m : Option Nat) (i : Nat) : S where
  fr := [(8, .int .i64 i), (0, .ptr 0 [] 0), (6, .sl (rs.map .root) true), (7, .int .i64 rs.length)]
  hp := wrH m (L ++ rootsB (rs.take i))
  nx := 3

set_option maxRecDepth 4000 in
theorem roots_eff1 (L : List UInt8) (rs : List Root) (hr0 : rs ≠ []) (hr1 : rs.length ≤ 1000) (hL : L.length ≤ 1000) : Eff Try.prog 39 [.ptr 0 [] 0, .sl (rs.map .root) true] 1 (wrH none L) (.tup []) (wrH (some 1) (L ++ rootsB rs)) := by
  unfold wrH
  refine eff_of_tr Try.func39 rfl (Nat.le_of_ble_eq_true rfl) (by first | rfl | (simp only [AV.idsB, AV.idsBL, Bool.and_true, Bool.true_and] <;> rfl)) fun E hE hP => ?_
  first | refine tr_seq_region (by rw [hE]; rfl) ?_ | (refine Tr.seq ?_; refine tr_seq_region (by rw [hE]; rfl) ?_)
  repeat (refine vc_op rfl ?_; simp only [go_sem, ↓Nat.reduceBEq, ↓Nat.reduceAdd, ↓Nat.reduceSub, ↓Nat.reduceMul, ↓Nat.reduceEqDiff, ↓Nat.reducePow, ↓Nat.reduceLeDiff, ↓Nat.reduceLT, ↓Int.reduceLE, ↓Int.reduceLT, ↓reduceIte, ↓reduceCtorEq])
  refine vc_nil ?_
  refine Tr.block ?_
  refine Tr.loop (fun p : Option Nat × Nat => st39 rs L p.1 p.2) (fun p => p.2 ≤ rs.length ∧ (p.1 = none ∧ p.2 = 0 ∨ p.1 = some 1)) (fun p => rs.length - p.2) (none, 0) ⟨Nat.zero_le _, .inl ⟨rfl, rfl⟩⟩ ?_ ?_
  · have e : L ++ rootsB (rs.take 0) = L := by simp [rootsB]
    show Wk E _ (st39 rs L none 0)
    unfold st39
    rw [e]
    unfold wrH
    refine wk_ren (fun n => n) ?_ ?_ rfl rfl rfl
    · repeat' (first | exact rfl | exact trivial | constructor)
    · repeat' (first | exact rfl | exact trivial | constructor)
  · rintro ⟨m, i⟩ ⟨hi, hm⟩
    simp only at hi hm
    show Tr _ _ _ _ (st39 rs L m i) _
    unfold st39
    first | refine tr_seq_region (by rw [hE]; rfl) ?_ | (refine Tr.seq ?_; refine tr_seq_region (by rw [hE]; rfl) ?_)
    repeat (refine vc_op rfl ?_; simp only [go_sem, ↓Nat.reduceBEq, ↓Nat.reduceAdd, ↓Nat.reduceSub, ↓Nat.reduceMul, ↓Nat.reduceEqDiff, ↓Nat.reducePow, ↓Nat.reduceLeDiff, ↓Nat.reduceLT, ↓Int.reduceLE, ↓Int.reduceLT, ↓reduceIte, ↓reduceCtorEq])
    refine vc_nil ?_
    refine Tr.seq (Tr.cond rfl (fun h1 => ?_) (fun h1 => ?_))
    · rcases hm with ⟨rfl, rfl⟩ | rfl
      · have hlt : 0 < rs.length := by have := of_decide_eq_true h1; omega
        have ha := nth_map_lt AV.root rs 0 hlt
        have hnx := rootsB_next hlt rfl
        generalize rs[0] = r at ha hnx
        have hr2 := r.2
        have hw := wrap_next (n := 0) (by omega)
        have hlen : (L ++ rootsB (rs.take 0)).length ≤ 1000000 := by rw [List.length_append, rootsB_len, List.length_take]; omega
        generalize hB : L ++ rootsB (rs.take 0) = B at hlen
        unfold wrH
        refine Tr.skip ?_
        try simp only [blockK, thenK, ↓reduceIte]
        refine Tr.seq ?_
        refine Tr.block ?_
        first | refine tr_seq_region (by rw [hE]; rfl) ?_ | (refine Tr.seq ?_; refine tr_seq_region (by rw [hE]; rfl) ?_)
        repeat (refine vc_op rfl ?_; simp only [ha, go_sem, ↓Nat.reduceBEq, ↓Nat.reduceAdd, ↓Nat.reduceSub, ↓Nat.reduceMul, ↓Nat.reduceEqDiff, ↓Nat.reducePow, ↓Nat.reduceLeDiff, ↓Nat.reduceLT, ↓Int.reduceLE, ↓Int.reduceLT, ↓reduceIte, ↓reduceCtorEq])
        refine vc_nil ?_
        refine tr_drawn mixed [0, 51] rfl (by rw [hE]; rfl) (by kernel_rfl) ?_
        refine vd_q rfl rfl ?_; simp only [go_sem, ↓Nat.reduceBEq, ↓Nat.reduceAdd, ↓Nat.reduceSub, ↓Nat.reduceMul, ↓Nat.reduceEqDiff, ↓Nat.reducePow, ↓Nat.reduceLeDiff, ↓Nat.reduceLT, ↓Int.reduceLE, ↓Int.reduceLT, ↓reduceIte, ↓reduceCtorEq]
        refine vd_q rfl rfl ?_; simp only [go_sem, ↓Nat.reduceBEq, ↓Nat.reduceAdd, ↓Nat.reduceSub, ↓Nat.reduceMul, ↓Nat.reduceEqDiff, ↓Nat.reducePow, ↓Nat.reduceLeDiff, ↓Nat.reduceLT, ↓Int.reduceLE, ↓Int.reduceLT, ↓reduceIte, ↓reduceCtorEq]
        refine vd_q rfl rfl ?_; simp only [go_sem, ↓Nat.reduceBEq, ↓Nat.reduceAdd, ↓Nat.reduceSub, ↓Nat.reduceMul, ↓Nat.reduceEqDiff, ↓Nat.reducePow, ↓Nat.reduceLeDiff, ↓Nat.reduceLT, ↓Int.reduceLE, ↓Int.reduceLT, ↓reduceIte, ↓reduceCtorEq]
        refine vd_q rfl rfl ?_; simp only [go_sem, ↓Nat.reduceBEq, ↓Nat.reduceAdd, ↓Nat.reduceSub, ↓Nat.reduceMul, ↓Nat.reduceEqDiff, ↓Nat.reducePow, ↓Nat.reduceLeDiff, ↓Nat.reduceLT, ↓Int.reduceLE, ↓Int.reduceLT, ↓reduceIte, ↓reduceCtorEq]
        refine vd_q rfl rfl ?_; simp only [go_sem, ↓Nat.reduceBEq, ↓Nat.reduceAdd, ↓Nat.reduceSub, ↓Nat.reduceMul, ↓Nat.reduceEqDiff, ↓Nat.reducePow, ↓Nat.reduceLeDiff, ↓Nat.reduceLT, ↓Int.reduceLE, ↓Int.reduceLT, ↓reduceIte, ↓reduceCtorEq]
        refine vd_q rfl rfl ?_; simp only [go_sem, ↓Nat.reduceBEq, ↓Nat.reduceAdd, ↓Nat.reduceSub, ↓Nat.reduceMul, ↓Nat.reduceEqDiff, ↓Nat.reducePow, ↓Nat.reduceLeDiff, ↓Nat.reduceLT, ↓Int.reduceLE, ↓Int.reduceLT, ↓reduceIte, ↓reduceCtorEq]
        refine vd_w rfl rfl (by kernel_rfl) ?_; simp only [List.filter_cons, List.filter_nil, go_sem, ↓Nat.reduceBEq, ↓Nat.reduceAdd, ↓Nat.reduceSub, ↓Nat.reduceMul, ↓Nat.reduceEqDiff, ↓Nat.reducePow, ↓Nat.reduceLeDiff, ↓Nat.reduceLT, ↓Int.reduceLE, ↓Int.reduceLT, ↓reduceIte, ↓reduceCtorEq]
        refine ⟨lens_bav r.1, lens_bav B, by omega, by omega, .inr (fun h => by have := congrArg List.length h; rw [List.length_map, hr2] at this; exact absurd this (by decide)), ?_⟩
        rw [show List.map bav B ++ List.map (fun b : UInt8 => AV.int IntKind.u8 (b.toNat : Int)) r.1 = (B ++ r.1).map bav from (List.map_append (f := bav)).symm]
        refine vd_q rfl rfl ?_; simp only [go_sem, ↓Nat.reduceBEq, ↓Nat.reduceAdd, ↓Nat.reduceSub, ↓Nat.reduceMul, ↓Nat.reduceEqDiff, ↓Nat.reducePow, ↓Nat.reduceLeDiff, ↓Nat.reduceLT, ↓Int.reduceLE, ↓Int.reduceLT, ↓reduceIte, ↓reduceCtorEq]
        refine vd_q rfl rfl ?_; simp only [go_sem, ↓Nat.reduceBEq, ↓Nat.reduceAdd, ↓Nat.reduceSub, ↓Nat.reduceMul, ↓Nat.reduceEqDiff, ↓Nat.reducePow, ↓Nat.reduceLeDiff, ↓Nat.reduceLT, ↓Int.reduceLE, ↓Int.reduceLT, ↓reduceIte, ↓reduceCtorEq]
        refine vd_w rfl rfl (by kernel_rfl) ?_; simp only [go_sem, ↓Nat.reduceBEq, ↓Nat.reduceAdd, ↓Nat.reduceSub, ↓Nat.reduceMul, ↓Nat.reduceEqDiff, ↓Nat.reducePow, ↓Nat.reduceLeDiff, ↓Nat.reduceLT, ↓Int.reduceLE, ↓Int.reduceLT, ↓reduceIte, ↓reduceCtorEq]
        refine vd_nil ?_
        try simp only [blockK, thenK, ↓reduceIte]
        refine tr_region (by rw [hE]; rfl) ?_
        repeat (refine vc_op rfl ?_; simp only [hw, go_sem, ↓Nat.reduceBEq, ↓Nat.reduceAdd, ↓Nat.reduceSub, ↓Nat.reduceMul, ↓Nat.reduceEqDiff, ↓Nat.reducePow, ↓Nat.reduceLeDiff, ↓Nat.reduceLT, ↓Int.reduceLE, ↓Int.reduceLT, ↓reduceIte, ↓reduceCtorEq])
        refine vc_nil ?_
        try simp only [blockK, thenK, ↓reduceIte]
        refine ⟨(some 1, 0 + 1), ⟨by omega, .inr rfl⟩, by simp only; omega, ?_⟩
        show Wk _ _ (st39 rs L (some 1) (0 + 1))
        unfold st39
        rw [hnx, ← List.append_assoc, hB]
        have e : wrX (some 1) (B ++ r.1) = .st [.ms 1 1 (B.length + r.1.length)] := by
          unfold wrX
          rw [List.length_append]
        unfold wrH
        simp only [e]
        refine wk_ren (fun | 1 => 179 | n => n) ?_ ?_ rfl rfl rfl
        · repeat' (first | exact rfl | exact trivial | constructor)
        · repeat' (first | exact rfl | exact trivial | constructor)
      · have hlt : i < rs.length := by have := of_decide_eq_true h1; omega
        have ha := nth_map_lt AV.root rs i hlt
        have hnx := rootsB_next hlt rfl
        generalize rs[i] = r at ha hnx
        have hr2 := r.2
        have hw := wrap_next (n := i) (by omega)
        have hlen : (L ++ rootsB (rs.take i)).length ≤ 1000000 := by rw [List.length_append, rootsB_len, List.length_take]; omega
        generalize hB : L ++ rootsB (rs.take i) = B at hlen
        unfold wrH
        refine Tr.skip ?_
        try simp only [blockK, thenK, ↓reduceIte]
        refine Tr.seq ?_
        refine Tr.block ?_
        first | refine tr_seq_region (by rw [hE]; rfl) ?_ | (refine Tr.seq ?_; refine tr_seq_region (by rw [hE]; rfl) ?_)
        repeat (refine vc_op rfl ?_; simp only [ha, go_sem, ↓Nat.reduceBEq, ↓Nat.reduceAdd, ↓Nat.reduceSub, ↓Nat.reduceMul, ↓Nat.reduceEqDiff, ↓Nat.reducePow, ↓Nat.reduceLeDiff, ↓Nat.reduceLT, ↓Int.reduceLE, ↓Int.reduceLT, ↓reduceIte, ↓reduceCtorEq])
        refine vc_nil ?_
        refine tr_drawn mixed [0, 1, 51] rfl (by rw [hE]; rfl) (by kernel_rfl) ?_
        refine vd_q rfl rfl ?_; simp only [go_sem, ↓Nat.reduceBEq, ↓Nat.reduceAdd, ↓Nat.reduceSub, ↓Nat.reduceMul, ↓Nat.reduceEqDiff, ↓Nat.reducePow, ↓Nat.reduceLeDiff, ↓Nat.reduceLT, ↓Int.reduceLE, ↓Int.reduceLT, ↓reduceIte, ↓reduceCtorEq]
        refine vd_q rfl rfl ?_; simp only [go_sem, ↓Nat.reduceBEq, ↓Nat.reduceAdd, ↓Nat.reduceSub, ↓Nat.reduceMul, ↓Nat.reduceEqDiff, ↓Nat.reducePow, ↓Nat.reduceLeDiff, ↓Nat.reduceLT, ↓Int.reduceLE, ↓Int.reduceLT, ↓reduceIte, ↓reduceCtorEq]
        refine vd_q rfl rfl ?_; simp only [go_sem, ↓Nat.reduceBEq, ↓Nat.reduceAdd, ↓Nat.reduceSub, ↓Nat.reduceMul, ↓Nat.reduceEqDiff, ↓Nat.reducePow, ↓Nat.reduceLeDiff, ↓Nat.reduceLT, ↓Int.reduceLE, ↓Int.reduceLT, ↓reduceIte, ↓reduceCtorEq]
        refine vd_q rfl rfl ?_; simp only [go_sem, ↓Nat.reduceBEq, ↓Nat.reduceAdd, ↓Nat.reduceSub, ↓Nat.reduceMul, ↓Nat.reduceEqDiff, ↓Nat.reducePow, ↓Nat.reduceLeDiff, ↓Nat.reduceLT, ↓Int.reduceLE, ↓Int.reduceLT, ↓reduceIte, ↓reduceCtorEq]
        refine vd_q rfl rfl ?_; simp only [go_sem, ↓Nat.reduceBEq, ↓Nat.reduceAdd, ↓Nat.reduceSub, ↓Nat.reduceMul, ↓Nat.reduceEqDiff, ↓Nat.reducePow, ↓Nat.reduceLeDiff, ↓Nat.reduceLT, ↓Int.reduceLE, ↓Int.reduceLT, ↓reduceIte, ↓reduceCtorEq]
        refine vd_q rfl rfl ?_; simp only [go_sem, ↓Nat.reduceBEq, ↓Nat.reduceAdd, ↓Nat.reduceSub, ↓Nat.reduceMul, ↓Nat.reduceEqDiff, ↓Nat.reducePow, ↓Nat.reduceLeDiff, ↓Nat.reduceLT, ↓Int.reduceLE, ↓Int.reduceLT, ↓reduceIte, ↓reduceCtorEq]
        refine vd_w rfl rfl (by kernel_rfl) ?_; simp only [List.filter_cons, List.filter_nil, go_sem, ↓Nat.reduceBEq, ↓Nat.reduceAdd, ↓Nat.reduceSub, ↓Nat.reduceMul, ↓Nat.reduceEqDiff, ↓Nat.reducePow, ↓Nat.reduceLeDiff, ↓Nat.reduceLT, ↓Int.reduceLE, ↓Int.reduceLT, ↓reduceIte, ↓reduceCtorEq]
        refine ⟨lens_bav r.1, by omega, by omega, ?_⟩
        rw [show List.map bav B ++ List.map (fun b : UInt8 => AV.int IntKind.u8 (b.toNat : Int)) r.1 = (B ++ r.1).map bav from (List.map_append (f := bav)).symm]
        refine vd_q rfl rfl ?_; simp only [go_sem, ↓Nat.reduceBEq, ↓Nat.reduceAdd, ↓Nat.reduceSub, ↓Nat.reduceMul, ↓Nat.reduceEqDiff, ↓Nat.reducePow, ↓Nat.reduceLeDiff, ↓Nat.reduceLT, ↓Int.reduceLE, ↓Int.reduceLT, ↓reduceIte, ↓reduceCtorEq]
        refine vd_q rfl rfl ?_; simp only [go_sem, ↓Nat.reduceBEq, ↓Nat.reduceAdd, ↓Nat.reduceSub, ↓Nat.reduceMul, ↓Nat.reduceEqDiff, ↓Nat.reducePow, ↓Nat.reduceLeDiff, ↓Nat.reduceLT, ↓Int.reduceLE, ↓Int.reduceLT, ↓reduceIte, ↓reduceCtorEq]
        refine vd_w rfl rfl (by kernel_rfl) ?_; simp only [go_sem, ↓Nat.reduceBEq, ↓Nat.reduceAdd, ↓Nat.reduceSub, ↓Nat.reduceMul, ↓Nat.reduceEqDiff, ↓Nat.reducePow, ↓Nat.reduceLeDiff, ↓Nat.reduceLT, ↓Int.reduceLE, ↓Int.reduceLT, ↓reduceIte, ↓reduceCtorEq]
        refine vd_nil ?_
        try simp only [blockK, thenK, ↓reduceIte]
        refine tr_region (by rw [hE]; rfl) ?_
        repeat (refine vc_op rfl ?_; simp only [hw, go_sem, ↓Nat.reduceBEq, ↓Nat.reduceAdd, ↓Nat.reduceSub, ↓Nat.reduceMul, ↓Nat.reduceEqDiff, ↓Nat.reducePow, ↓Nat.reduceLeDiff, ↓Nat.reduceLT, ↓Int.reduceLE, ↓Int.reduceLT, ↓reduceIte, ↓reduceCtorEq])
        refine vc_nil ?_
        try simp only [blockK, thenK, ↓reduceIte]
        refine ⟨(some 1, i + 1), ⟨by omega, .inr rfl⟩, by simp only; omega, ?_⟩
        show Wk _ _ (st39 rs L (some 1) (i + 1))
        unfold st39
        rw [hnx, ← List.append_assoc, hB]
        have e : wrX (some 1) (B ++ r.1) = .st [.ms 1 1 (B.length + r.1.length)] := by
          unfold wrX
          rw [List.length_append]
        unfold wrH
        simp only [e]
        refine wk_ren (fun | 1 => 179 | n => n) ?_ ?_ rfl rfl rfl
        · repeat' (first | exact rfl | exact trivial | constructor)
        · repeat' (first | exact rfl | exact trivial | constructor)
    · refine Tr.exit ?_
      try simp only [blockK, thenK, ↓reduceIte]
      have hil : i = rs.length := by
        have := of_decide_eq_false h1
        omega
      have hmk : m = some 1 := by
        rcases hm with ⟨_, h⟩ | h
        · exact absurd (List.eq_nil_of_length_eq_zero (by omega)) hr0
        · exact h
      subst hil
      subst hmk
      rw [List.take_length]
      unfold wrH
      simp only [Try.f39, go_sem, ↓Nat.reduceBEq, ↓Nat.reduceAdd, ↓Nat.reduceSub, ↓Nat.reduceMul, ↓Nat.reduceEqDiff, ↓Nat.reducePow, ↓Nat.reduceLeDiff, ↓Nat.reduceLT, ↓Int.reduceLE, ↓Int.reduceLT, ↓reduceIte, ↓reduceCtorEq]
      exact ⟨fun n => n, ⟨⟨rfl, rfl, rfl⟩, ⟨rfl, rfl, rfl⟩, trivial⟩, rfl, fun _ _ => rfl⟩

set_option maxRecDepth 4000 in
theorem roots_eff2 (L : List UInt8) (rs : List Root) (hr0 : rs ≠ []) (hr1 : rs.length ≤ 1000) (hL : L.length ≤ 1000) : Eff Try.prog 39 [.ptr 0 [] 0, .sl (rs.map .root) true] 2 (wrH (some 1) L) (.tup []) (wrH (some 2) (L ++ rootsB rs)) := by
  unfold wrH
  refine eff_of_tr Try.func39 rfl (Nat.le_of_ble_eq_true rfl) (by first | rfl | (simp only [AV.idsB, AV.idsBL, Bool.and_true, Bool.true_and] <;> rfl)) fun E hE hP => ?_
  first | refine tr_seq_region (by rw [hE]; rfl) ?_ | (refine Tr.seq ?_; refine tr_seq_region (by rw [hE]; rfl) ?_)
  repeat (refine vc_op rfl ?_; simp only [go_sem, ↓Nat.reduceBEq, ↓Nat.reduceAdd, ↓Nat.reduceSub, ↓Nat.reduceMul, ↓Nat.reduceEqDiff, ↓Nat.reducePow, ↓Nat.reduceLeDiff, ↓Nat.reduceLT, ↓Int.reduceLE, ↓Int.reduceLT, ↓reduceIte, ↓reduceCtorEq])
  refine vc_nil ?_
  refine Tr.block ?_
  refine Tr.loop (fun p : Option Nat × Nat => st39 rs L p.1 p.2) (fun p => p.2 ≤ rs.length ∧ (p.1 = (some 1) ∧ p.2 = 0 ∨ p.1 = some 2)) (fun p => rs.length - p.2) ((some 1), 0) ⟨Nat.zero_le _, .inl ⟨rfl, rfl⟩⟩ ?_ ?_
  · have e : L ++ rootsB (rs.take 0) = L := by simp [rootsB]
    show Wk E _ (st39 rs L (some 1) 0)
    unfold st39
    rw [e]
    unfold wrH
    refine wk_ren (fun n => n) ?_ ?_ rfl rfl rfl
    · repeat' (first | exact rfl | exact trivial | constructor)
    · repeat' (first | exact rfl | exact trivial | constructor)
  · rintro ⟨m, i⟩ ⟨hi, hm⟩
    simp only at hi hm
    show Tr _ _ _ _ (st39 rs L m i) _
    unfold st39
    first | refine tr_seq_region (by rw [hE]; rfl) ?_ | (refine Tr.seq ?_; refine tr_seq_region (by rw [hE]; rfl) ?_)
    repeat (refine vc_op rfl ?_; simp only [go_sem, ↓Nat.reduceBEq, ↓Nat.reduceAdd, ↓Nat.reduceSub, ↓Nat.reduceMul, ↓Nat.reduceEqDiff, ↓Nat.reducePow, ↓Nat.reduceLeDiff, ↓Nat.reduceLT, ↓Int.reduceLE, ↓Int.reduceLT, ↓reduceIte, ↓reduceCtorEq])
    refine vc_nil ?_
    refine Tr.seq (Tr.cond rfl (fun h1 => ?_) (fun h1 => ?_))
    · rcases hm with ⟨rfl, rfl⟩ | rfl
      · have hlt : 0 < rs.length := by have := of_decide_eq_true h1; omega
        have ha := nth_map_lt AV.root rs 0 hlt
        have hnx := rootsB_next hlt rfl
        generalize rs[0] = r at ha hnx
        have hr2 := r.2
        have hw := wrap_next (n := 0) (by omega)
        have hlen : (L ++ rootsB (rs.take 0)).length ≤ 1000000 := by rw [List.length_append, rootsB_len, List.length_take]; omega
        generalize hB : L ++ rootsB (rs.take 0) = B at hlen
        unfold wrH
        refine Tr.skip ?_
        try simp only [blockK, thenK, ↓reduceIte]
        refine Tr.seq ?_
        refine Tr.block ?_
        first | refine tr_seq_region (by rw [hE]; rfl) ?_ | (refine Tr.seq ?_; refine tr_seq_region (by rw [hE]; rfl) ?_)
        repeat (refine vc_op rfl ?_; simp only [ha, go_sem, ↓Nat.reduceBEq, ↓Nat.reduceAdd, ↓Nat.reduceSub, ↓Nat.reduceMul, ↓Nat.reduceEqDiff, ↓Nat.reducePow, ↓Nat.reduceLeDiff, ↓Nat.reduceLT, ↓Int.reduceLE, ↓Int.reduceLT, ↓reduceIte, ↓reduceCtorEq])
        refine vc_nil ?_
        refine tr_drawn mixed [0, 1, 51] rfl (by rw [hE]; rfl) (by kernel_rfl) ?_
        refine vd_q rfl rfl ?_; simp only [go_sem, ↓Nat.reduceBEq, ↓Nat.reduceAdd, ↓Nat.reduceSub, ↓Nat.reduceMul, ↓Nat.reduceEqDiff, ↓Nat.reducePow, ↓Nat.reduceLeDiff, ↓Nat.reduceLT, ↓Int.reduceLE, ↓Int.reduceLT, ↓reduceIte, ↓reduceCtorEq]
        refine vd_q rfl rfl ?_; simp only [go_sem, ↓Nat.reduceBEq, ↓Nat.reduceAdd, ↓Nat.reduceSub, ↓Nat.reduceMul, ↓Nat.reduceEqDiff, ↓Nat.reducePow, ↓Nat.reduceLeDiff, ↓Nat.reduceLT, ↓Int.reduceLE, ↓Int.reduceLT, ↓reduceIte, ↓reduceCtorEq]
        refine vd_q rfl rfl ?_; simp only [go_sem, ↓Nat.reduceBEq, ↓Nat.reduceAdd, ↓Nat.reduceSub, ↓Nat.reduceMul, ↓Nat.reduceEqDiff, ↓Nat.reducePow, ↓Nat.reduceLeDiff, ↓Nat.reduceLT, ↓Int.reduceLE, ↓Int.reduceLT, ↓reduceIte, ↓reduceCtorEq]
        refine vd_q rfl rfl ?_; simp only [go_sem, ↓Nat.reduceBEq, ↓Nat.reduceAdd, ↓Nat.reduceSub, ↓Nat.reduceMul, ↓Nat.reduceEqDiff, ↓Nat.reducePow, ↓Nat.reduceLeDiff, ↓Nat.reduceLT, ↓Int.reduceLE, ↓Int.reduceLT, ↓reduceIte, ↓reduceCtorEq]
        refine vd_q rfl rfl ?_; simp only [go_sem, ↓Nat.reduceBEq, ↓Nat.reduceAdd, ↓Nat.reduceSub, ↓Nat.reduceMul, ↓Nat.reduceEqDiff, ↓Nat.reducePow, ↓Nat.reduceLeDiff, ↓Nat.reduceLT, ↓Int.reduceLE, ↓Int.reduceLT, ↓reduceIte, ↓reduceCtorEq]
        refine vd_q rfl rfl ?_; simp only [go_sem, ↓Nat.reduceBEq, ↓Nat.reduceAdd, ↓Nat.reduceSub, ↓Nat.reduceMul, ↓Nat.reduceEqDiff, ↓Nat.reducePow, ↓Nat.reduceLeDiff, ↓Nat.reduceLT, ↓Int.reduceLE, ↓Int.reduceLT, ↓reduceIte, ↓reduceCtorEq]
        refine vd_w rfl rfl (by kernel_rfl) ?_; simp only [List.filter_cons, List.filter_nil, go_sem, ↓Nat.reduceBEq, ↓Nat.reduceAdd, ↓Nat.reduceSub, ↓Nat.reduceMul, ↓Nat.reduceEqDiff, ↓Nat.reducePow, ↓Nat.reduceLeDiff, ↓Nat.reduceLT, ↓Int.reduceLE, ↓Int.reduceLT, ↓reduceIte, ↓reduceCtorEq]
        refine ⟨lens_bav r.1, by omega, by omega, ?_⟩
        rw [show List.map bav B ++ List.map (fun b : UInt8 => AV.int IntKind.u8 (b.toNat : Int)) r.1 = (B ++ r.1).map bav from (List.map_append (f := bav)).symm]
        refine vd_q rfl rfl ?_; simp only [go_sem, ↓Nat.reduceBEq, ↓Nat.reduceAdd, ↓Nat.reduceSub, ↓Nat.reduceMul, ↓Nat.reduceEqDiff, ↓Nat.reducePow, ↓Nat.reduceLeDiff, ↓Nat.reduceLT, ↓Int.reduceLE, ↓Int.reduceLT, ↓reduceIte, ↓reduceCtorEq]
        refine vd_q rfl rfl ?_; simp only [go_sem, ↓Nat.reduceBEq, ↓Nat.reduceAdd, ↓Nat.reduceSub, ↓Nat.reduceMul, ↓Nat.reduceEqDiff, ↓Nat.reducePow, ↓Nat.reduceLeDiff, ↓Nat.reduceLT, ↓Int.reduceLE, ↓Int.reduceLT, ↓reduceIte, ↓reduceCtorEq]
        refine vd_w rfl rfl (by kernel_rfl) ?_; simp only [go_sem, ↓Nat.reduceBEq, ↓Nat.reduceAdd, ↓Nat.reduceSub, ↓Nat.reduceMul, ↓Nat.reduceEqDiff, ↓Nat.reducePow, ↓Nat.reduceLeDiff, ↓Nat.reduceLT, ↓Int.reduceLE, ↓Int.reduceLT, ↓reduceIte, ↓reduceCtorEq]
        refine vd_nil ?_
        try simp only [blockK, thenK, ↓reduceIte]
        refine tr_region (by rw [hE]; rfl) ?_
        repeat (refine vc_op rfl ?_; simp only [hw, go_sem, ↓Nat.reduceBEq, ↓Nat.reduceAdd, ↓Nat.reduceSub, ↓Nat.reduceMul, ↓Nat.reduceEqDiff, ↓Nat.reducePow, ↓Nat.reduceLeDiff, ↓Nat.reduceLT, ↓Int.reduceLE, ↓Int.reduceLT, ↓reduceIte, ↓reduceCtorEq])
        refine vc_nil ?_
        try simp only [blockK, thenK, ↓reduceIte]
        refine ⟨(some 2, 0 + 1), ⟨by omega, .inr rfl⟩, by simp only; omega, ?_⟩
        show Wk _ _ (st39 rs L (some 2) (0 + 1))
        unfold st39
        rw [hnx, ← List.append_assoc, hB]
        have e : wrX (some 2) (B ++ r.1) = .st [.ms 2 1 (B.length + r.1.length)] := by
          unfold wrX
          rw [List.length_append]
        unfold wrH
        simp only [e]
        refine wk_ren (fun | 2 => 179 | n => n) ?_ ?_ rfl rfl rfl
        · repeat' (first | exact rfl | exact trivial | constructor)
        · repeat' (first | exact rfl | exact trivial | constructor)
      · have hlt : i < rs.length := by have := of_decide_eq_true h1; omega
        have ha := nth_map_lt AV.root rs i hlt
        have hnx := rootsB_next hlt rfl
        generalize rs[i] = r at ha hnx
        have hr2 := r.2
        have hw := wrap_next (n := i) (by omega)
        have hlen : (L ++ rootsB (rs.take i)).length ≤ 1000000 := by rw [List.length_append, rootsB_len, List.length_take]; omega
        generalize hB : L ++ rootsB (rs.take i) = B at hlen
        unfold wrH
        refine Tr.skip ?_
        try simp only [blockK, thenK, ↓reduceIte]
        refine Tr.seq ?_
        refine Tr.block ?_
        first | refine tr_seq_region (by rw [hE]; rfl) ?_ | (refine Tr.seq ?_; refine tr_seq_region (by rw [hE]; rfl) ?_)
        repeat (refine vc_op rfl ?_; simp only [ha, go_sem, ↓Nat.reduceBEq, ↓Nat.reduceAdd, ↓Nat.reduceSub, ↓Nat.reduceMul, ↓Nat.reduceEqDiff, ↓Nat.reducePow, ↓Nat.reduceLeDiff, ↓Nat.reduceLT, ↓Int.reduceLE, ↓Int.reduceLT, ↓reduceIte, ↓reduceCtorEq])
        refine vc_nil ?_
        refine tr_drawn mixed [0, 2, 51] rfl (by rw [hE]; rfl) (by kernel_rfl) ?_
        refine vd_q rfl rfl ?_; simp only [go_sem, ↓Nat.reduceBEq, ↓Nat.reduceAdd, ↓Nat.reduceSub, ↓Nat.reduceMul, ↓Nat.reduceEqDiff, ↓Nat.reducePow, ↓Nat.reduceLeDiff, ↓Nat.reduceLT, ↓Int.reduceLE, ↓Int.reduceLT, ↓reduceIte, ↓reduceCtorEq]
        refine vd_q rfl rfl ?_; simp only [go_sem, ↓Nat.reduceBEq, ↓Nat.reduceAdd, ↓Nat.reduceSub, ↓Nat.reduceMul, ↓Nat.reduceEqDiff, ↓Nat.reducePow, ↓Nat.reduceLeDiff, ↓Nat.reduceLT, ↓Int.reduceLE, ↓Int.reduceLT, ↓reduceIte, ↓reduceCtorEq]
        refine vd_q rfl rfl ?_; simp only [go_sem, ↓Nat.reduceBEq, ↓Nat.reduceAdd, ↓Nat.reduceSub, ↓Nat.reduceMul, ↓Nat.reduceEqDiff, ↓Nat.reducePow, ↓Nat.reduceLeDiff, ↓Nat.reduceLT, ↓Int.reduceLE, ↓Int.reduceLT, ↓reduceIte, ↓reduceCtorEq]
        refine vd_q rfl rfl ?_; simp only [go_sem, ↓Nat.reduceBEq, ↓Nat.reduceAdd, ↓Nat.reduceSub, ↓Nat.reduceMul, ↓Nat.reduceEqDiff, ↓Nat.reducePow, ↓Nat.reduceLeDiff, ↓Nat.reduceLT, ↓Int.reduceLE, ↓Int.reduceLT, ↓reduceIte, ↓reduceCtorEq]
        refine vd_q rfl rfl ?_; simp only [go_sem, ↓Nat.reduceBEq, ↓Nat.reduceAdd, ↓Nat.reduceSub, ↓Nat.reduceMul, ↓Nat.reduceEqDiff, ↓Nat.reducePow, ↓Nat.reduceLeDiff, ↓Nat.reduceLT, ↓Int.reduceLE, ↓Int.reduceLT, ↓reduceIte, ↓reduceCtorEq]
        refine vd_q rfl rfl ?_; simp only [go_sem, ↓Nat.reduceBEq, ↓Nat.reduceAdd, ↓Nat.reduceSub, ↓Nat.reduceMul, ↓Nat.reduceEqDiff, ↓Nat.reducePow, ↓Nat.reduceLeDiff, ↓Nat.reduceLT, ↓Int.reduceLE, ↓Int.reduceLT, ↓reduceIte, ↓reduceCtorEq]
        refine vd_w rfl rfl (by kernel_rfl) ?_; simp only [List.filter_cons, List.filter_nil, go_sem, ↓Nat.reduceBEq, ↓Nat.reduceAdd, ↓Nat.reduceSub, ↓Nat.reduceMul, ↓Nat.reduceEqDiff, ↓Nat.reducePow, ↓Nat.reduceLeDiff, ↓Nat.reduceLT, ↓Int.reduceLE, ↓Int.reduceLT, ↓reduceIte, ↓reduceCtorEq]
        refine ⟨lens_bav r.1, by omega, by omega, ?_⟩
        rw [show List.map bav B ++ List.map (fun b : UInt8 => AV.int IntKind.u8 (b.toNat : Int)) r.1 = (B ++ r.1).map bav from (List.map_append (f := bav)).symm]
        refine vd_q rfl rfl ?_; simp only [go_sem, ↓Nat.reduceBEq, ↓Nat.reduceAdd, ↓Nat.reduceSub, ↓Nat.reduceMul, ↓Nat.reduceEqDiff, ↓Nat.reducePow, ↓Nat.reduceLeDiff, ↓Nat.reduceLT, ↓Int.reduceLE, ↓Int.reduceLT, ↓reduceIte, ↓reduceCtorEq]
        refine vd_q rfl rfl ?_; simp only [go_sem, ↓Nat.reduceBEq, ↓Nat.reduceAdd, ↓Nat.reduceSub, ↓Nat.reduceMul, ↓Nat.reduceEqDiff, ↓Nat.reducePow, ↓Nat.reduceLeDiff, ↓Nat.reduceLT, ↓Int.reduceLE, ↓Int.reduceLT, ↓reduceIte, ↓reduceCtorEq]
        refine vd_w rfl rfl (by kernel_rfl) ?_; simp only [go_sem, ↓Nat.reduceBEq, ↓Nat.reduceAdd, ↓Nat.reduceSub, ↓Nat.reduceMul, ↓Nat.reduceEqDiff, ↓Nat.reducePow, ↓Nat.reduceLeDiff, ↓Nat.reduceLT, ↓Int.reduceLE, ↓Int.reduceLT, ↓reduceIte, ↓reduceCtorEq]
        refine vd_nil ?_
        try simp only [blockK, thenK, ↓reduceIte]
        refine tr_region (by rw [hE]; rfl) ?_
        repeat (refine vc_op rfl ?_; simp only [hw, go_sem, ↓Nat.reduceBEq, ↓Nat.reduceAdd, ↓Nat.reduceSub, ↓Nat.reduceMul, ↓Nat.reduceEqDiff, ↓Nat.reducePow, ↓Nat.reduceLeDiff, ↓Nat.reduceLT, ↓Int.reduceLE, ↓Int.reduceLT, ↓reduceIte, ↓reduceCtorEq])
        refine vc_nil ?_
        try simp only [blockK, thenK, ↓reduceIte]
        refine ⟨(some 2, i + 1), ⟨by omega, .inr rfl⟩, by simp only; omega, ?_⟩
        show Wk _ _ (st39 rs L (some 2) (i + 1))
        unfold st39
        rw [hnx, ← List.append_assoc, hB]
        have e : wrX (some 2) (B ++ r.1) = .st [.ms 2 1 (B.length + r.1.length)] := by
          unfold wrX
          rw [List.length_append]
        unfold wrH
        simp only [e]
        refine wk_ren (fun | 2 => 179 | n => n) ?_ ?_ rfl rfl rfl
        · repeat' (first | exact rfl | exact trivial | constructor)
        · repeat' (first | exact rfl | exact trivial | constructor)
    · refine Tr.exit ?_
      try simp only [blockK, thenK, ↓reduceIte]
      have hil : i = rs.length := by
        have := of_decide_eq_false h1
        omega
      have hmk : m = some 2 := by
        rcases hm with ⟨_, h⟩ | h
        · exact absurd (List.eq_nil_of_length_eq_zero (by omega)) hr0
        · exact h
      subst hil
      subst hmk
      rw [List.take_length]
      unfold wrH
      simp only [Try.f39, go_sem, ↓Nat.reduceBEq, ↓Nat.reduceAdd, ↓Nat.reduceSub, ↓Nat.reduceMul, ↓Nat.reduceEqDiff, ↓Nat.reducePow, ↓Nat.reduceLeDiff, ↓Nat.reduceLT, ↓Int.reduceLE, ↓Int.reduceLT, ↓reduceIte, ↓reduceCtorEq]
      exact ⟨fun n => n, ⟨⟨rfl, rfl, rfl⟩, ⟨rfl, rfl, rfl⟩, trivial⟩, rfl, fun _ _ => rfl⟩
