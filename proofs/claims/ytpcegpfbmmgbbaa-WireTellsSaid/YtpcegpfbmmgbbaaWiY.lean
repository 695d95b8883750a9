/- The document's attestations. -/
import Derived.Test.YtpcegpfbmmgbbaaWiX
import Derived.Test.YtpcegpfbmmgbbaaAbFour
set_option linter.unusedSimpArgs false
namespace Go.Proofs.Ytpcegpfbmmgbbaa
open Go Go.Ab

def rval (l : List UInt8) : Int := IntKind.i64.wrap (IntKind.i64.wrap (256 * IntKind.i64.wrap ((l.getD 1 0).toNat : Int)) + IntKind.i64.wrap ((l.getD 2 0).toNat : Int))
theorem rval_valOf (l : List UInt8) (h : 3 ≤ l.length) : rval l = valOf l := by
  match l, h with
  | x :: a :: b :: t, _ =>
    have ha := a.toNat_lt
    have hb := b.toNat_lt
    rw [valOf_parts]
    show IntKind.i64.wrap (IntKind.i64.wrap (256 * IntKind.i64.wrap ((a.toNat : Nat) : Int)) + IntKind.i64.wrap ((b.toNat : Nat) : Int)) = _
    rw [wrap_i64 a.toNat (by omega), wrap_i64 b.toNat (by omega), show 256 * ((a.toNat : Nat) : Int) = ((256 * a.toNat : Nat) : Int) from by rw [Int.natCast_mul]; rfl, wrap_i64 _ (by omega), ← Int.natCast_add, wrap_i64 _ (by omega), Nat.mul_comm]
@[go_sem] theorem build30_012 (v n : Int) (r : Root) (K : AV → Prop) : buildK Try.prog 30 [(0, .int .i64 v), (1, .int .u64 n), (2, .root r)] K = K (Att.mk v n r zCheck zCheck).av := build_struct Try.underlying30 tZero30 rfl (by kernel_rfl) rfl K

set_option maxHeartbeats 4000000 in
set_option maxRecDepth 4000 in
theorem rAtt_pure (l : List UInt8) : Pure Try.prog 20 [.sl (l.map bav) false] (attR l) := by
  cases hi : isOf l 123 2 with
  | false =>
    rcases rIs hi (by decide) with h1 | ⟨h1, b, h2, h3⟩
    · have h1 : decide ((l.length : Int) = 123) = false := h1
      refine pure_of_tr Try.func20 rfl (Nat.le_of_ble_eq_true rfl) rfl fun E hE hP => ?_
      first | refine tr_seq_region (by rw [hE]; rfl) ?_ | (refine Tr.seq ?_; refine tr_seq_region (by rw [hE]; rfl) ?_)
      repeat (refine vc_op rfl ?_; simp only [go_sem, ↓Nat.reduceBEq, ↓Nat.reduceAdd, ↓Nat.reduceSub, ↓Nat.reduceMul, ↓Nat.reduceEqDiff, ↓Nat.reducePow, ↓Nat.reduceLeDiff, ↓Nat.reduceLT, ↓Int.reduceLE, ↓Int.reduceLT, ↓reduceIte, ↓reduceCtorEq])
      refine vc_nil ?_
      first | apply tr_m (by rw [hE]; rfl) | (refine Tr.seq ?_; apply tr_m (by rw [hE]; rfl))
      intro Q hQ
      simp only [List.toList_toArray, List.map_cons, List.map_nil, mo, guardSlot, Option.map_some, Option.map_none, List.getElem?_toArray, List.getElem?_cons_succ, List.getElem?_cons_zero, Option.bind_some]
      (refine vm_op ?_); intro r hr; simp only [h1, go_sem, ↓Nat.reduceBEq, ↓Nat.reduceAdd, ↓Nat.reduceSub, ↓Nat.reduceMul, ↓Nat.reduceEqDiff, ↓Nat.reducePow, ↓Nat.reduceLeDiff, ↓Nat.reduceLT, ↓Int.reduceLE, ↓Int.reduceLT, ↓reduceIte, ↓reduceCtorEq]; subst hr
      (refine vm_op ?_); intro r hr; simp only [h1, go_sem, ↓Nat.reduceBEq, ↓Nat.reduceAdd, ↓Nat.reduceSub, ↓Nat.reduceMul, ↓Nat.reduceEqDiff, ↓Nat.reducePow, ↓Nat.reduceLeDiff, ↓Nat.reduceLT, ↓Int.reduceLE, ↓Int.reduceLT, ↓reduceIte, ↓reduceCtorEq]; subst hr
      (refine vm_op ?_); intro r hr; simp only [h1, go_sem, ↓Nat.reduceBEq, ↓Nat.reduceAdd, ↓Nat.reduceSub, ↓Nat.reduceMul, ↓Nat.reduceEqDiff, ↓Nat.reducePow, ↓Nat.reduceLeDiff, ↓Nat.reduceLT, ↓Int.reduceLE, ↓Int.reduceLT, ↓reduceIte, ↓reduceCtorEq]; subst hr
      (refine vm_op ?_); intro r hr; simp only [h1, go_sem, ↓Nat.reduceBEq, ↓Nat.reduceAdd, ↓Nat.reduceSub, ↓Nat.reduceMul, ↓Nat.reduceEqDiff, ↓Nat.reducePow, ↓Nat.reduceLeDiff, ↓Nat.reduceLT, ↓Int.reduceLE, ↓Int.reduceLT, ↓reduceIte, ↓reduceCtorEq]; subst hr
      (first | refine vm_if rfl ?_ | refine vm_no rfl ?_ | refine vm_skip rfl ?_); intro r hr; simp only [h1, go_sem, ↓Nat.reduceBEq, ↓Nat.reduceAdd, ↓Nat.reduceSub, ↓Nat.reduceMul, ↓Nat.reduceEqDiff, ↓Nat.reducePow, ↓Nat.reduceLeDiff, ↓Nat.reduceLT, ↓Int.reduceLE, ↓Int.reduceLT, ↓reduceIte, ↓reduceCtorEq]; subst hr
      (first | refine vm_if rfl ?_ | refine vm_no rfl ?_ | refine vm_skip rfl ?_); intro r hr; simp only [h1, go_sem, ↓Nat.reduceBEq, ↓Nat.reduceAdd, ↓Nat.reduceSub, ↓Nat.reduceMul, ↓Nat.reduceEqDiff, ↓Nat.reducePow, ↓Nat.reduceLeDiff, ↓Nat.reduceLT, ↓Int.reduceLE, ↓Int.reduceLT, ↓reduceIte, ↓reduceCtorEq]; subst hr
      (first | refine vm_if rfl ?_ | refine vm_no rfl ?_ | refine vm_skip rfl ?_); intro r hr; simp only [h1, go_sem, ↓Nat.reduceBEq, ↓Nat.reduceAdd, ↓Nat.reduceSub, ↓Nat.reduceMul, ↓Nat.reduceEqDiff, ↓Nat.reducePow, ↓Nat.reduceLeDiff, ↓Nat.reduceLT, ↓Int.reduceLE, ↓Int.reduceLT, ↓reduceIte, ↓reduceCtorEq]; subst hr
      (first | refine vm_if rfl ?_ | refine vm_no rfl ?_ | refine vm_skip rfl ?_); intro r hr; simp only [h1, go_sem, ↓Nat.reduceBEq, ↓Nat.reduceAdd, ↓Nat.reduceSub, ↓Nat.reduceMul, ↓Nat.reduceEqDiff, ↓Nat.reducePow, ↓Nat.reduceLeDiff, ↓Nat.reduceLT, ↓Int.reduceLE, ↓Int.reduceLT, ↓reduceIte, ↓reduceCtorEq]; subst hr
      (refine vm_op ?_); intro r hr; simp only [h1, go_sem, ↓Nat.reduceBEq, ↓Nat.reduceAdd, ↓Nat.reduceSub, ↓Nat.reduceMul, ↓Nat.reduceEqDiff, ↓Nat.reducePow, ↓Nat.reduceLeDiff, ↓Nat.reduceLT, ↓Int.reduceLE, ↓Int.reduceLT, ↓reduceIte, ↓reduceCtorEq]; subst hr
      exact hQ
      first | refine Tr.cond (b := true) rfl (fun _ => ?_) (fun h => by cases h) | refine Tr.seq (Tr.cond (b := true) rfl (fun _ => ?_) (fun h => by cases h))
      first | refine tr_seq_region (by rw [hE]; rfl) ?_ | (refine Tr.seq ?_; refine tr_seq_region (by rw [hE]; rfl) ?_)
      repeat (refine vc_op rfl ?_; simp only [go_sem, ↓Nat.reduceBEq, ↓Nat.reduceAdd, ↓Nat.reduceSub, ↓Nat.reduceMul, ↓Nat.reduceEqDiff, ↓Nat.reducePow, ↓Nat.reduceLeDiff, ↓Nat.reduceLT, ↓Int.reduceLE, ↓Int.reduceLT, ↓reduceIte, ↓reduceCtorEq])
      refine vc_nil ?_
      refine Tr.ret ?_
      simp only [attR, hi, Try.f20, go_sem, ↓Nat.reduceBEq, ↓Nat.reduceAdd, ↓Nat.reduceSub, ↓Nat.reduceMul, ↓Nat.reduceEqDiff, ↓Nat.reducePow, ↓Nat.reduceLeDiff, ↓Nat.reduceLT, ↓Int.reduceLE, ↓Int.reduceLT, ↓reduceIte, ↓reduceCtorEq]
    · have h1 : decide ((l.length : Int) = 123) = true := h1
      have h3 : decide (b = 2) = false := h3
      refine pure_of_tr Try.func20 rfl (Nat.le_of_ble_eq_true rfl) rfl fun E hE hP => ?_
      first | refine tr_seq_region (by rw [hE]; rfl) ?_ | (refine Tr.seq ?_; refine tr_seq_region (by rw [hE]; rfl) ?_)
      repeat (refine vc_op rfl ?_; simp only [go_sem, ↓Nat.reduceBEq, ↓Nat.reduceAdd, ↓Nat.reduceSub, ↓Nat.reduceMul, ↓Nat.reduceEqDiff, ↓Nat.reducePow, ↓Nat.reduceLeDiff, ↓Nat.reduceLT, ↓Int.reduceLE, ↓Int.reduceLT, ↓reduceIte, ↓reduceCtorEq])
      refine vc_nil ?_
      first | apply tr_m (by rw [hE]; rfl) | (refine Tr.seq ?_; apply tr_m (by rw [hE]; rfl))
      intro Q hQ
      simp only [List.toList_toArray, List.map_cons, List.map_nil, mo, guardSlot, Option.map_some, Option.map_none, List.getElem?_toArray, List.getElem?_cons_succ, List.getElem?_cons_zero, Option.bind_some]
      (refine vm_op ?_); intro r hr; simp only [h1, h2, h3, go_sem, ↓Nat.reduceBEq, ↓Nat.reduceAdd, ↓Nat.reduceSub, ↓Nat.reduceMul, ↓Nat.reduceEqDiff, ↓Nat.reducePow, ↓Nat.reduceLeDiff, ↓Nat.reduceLT, ↓Int.reduceLE, ↓Int.reduceLT, ↓reduceIte, ↓reduceCtorEq]; subst hr
      (refine vm_op ?_); intro r hr; simp only [h1, h2, h3, go_sem, ↓Nat.reduceBEq, ↓Nat.reduceAdd, ↓Nat.reduceSub, ↓Nat.reduceMul, ↓Nat.reduceEqDiff, ↓Nat.reducePow, ↓Nat.reduceLeDiff, ↓Nat.reduceLT, ↓Int.reduceLE, ↓Int.reduceLT, ↓reduceIte, ↓reduceCtorEq]; subst hr
      (refine vm_op ?_); intro r hr; simp only [h1, h2, h3, go_sem, ↓Nat.reduceBEq, ↓Nat.reduceAdd, ↓Nat.reduceSub, ↓Nat.reduceMul, ↓Nat.reduceEqDiff, ↓Nat.reducePow, ↓Nat.reduceLeDiff, ↓Nat.reduceLT, ↓Int.reduceLE, ↓Int.reduceLT, ↓reduceIte, ↓reduceCtorEq]; subst hr
      (refine vm_op ?_); intro r hr; simp only [h1, h2, h3, go_sem, ↓Nat.reduceBEq, ↓Nat.reduceAdd, ↓Nat.reduceSub, ↓Nat.reduceMul, ↓Nat.reduceEqDiff, ↓Nat.reducePow, ↓Nat.reduceLeDiff, ↓Nat.reduceLT, ↓Int.reduceLE, ↓Int.reduceLT, ↓reduceIte, ↓reduceCtorEq]; subst hr
      (first | refine vm_if rfl ?_ | refine vm_no rfl ?_ | refine vm_skip rfl ?_); intro r hr; simp only [h1, h2, h3, go_sem, ↓Nat.reduceBEq, ↓Nat.reduceAdd, ↓Nat.reduceSub, ↓Nat.reduceMul, ↓Nat.reduceEqDiff, ↓Nat.reducePow, ↓Nat.reduceLeDiff, ↓Nat.reduceLT, ↓Int.reduceLE, ↓Int.reduceLT, ↓reduceIte, ↓reduceCtorEq]; subst hr
      (first | refine vm_if rfl ?_ | refine vm_no rfl ?_ | refine vm_skip rfl ?_); intro r hr; simp only [h1, h2, h3, go_sem, ↓Nat.reduceBEq, ↓Nat.reduceAdd, ↓Nat.reduceSub, ↓Nat.reduceMul, ↓Nat.reduceEqDiff, ↓Nat.reducePow, ↓Nat.reduceLeDiff, ↓Nat.reduceLT, ↓Int.reduceLE, ↓Int.reduceLT, ↓reduceIte, ↓reduceCtorEq]; subst hr
      (first | refine vm_if rfl ?_ | refine vm_no rfl ?_ | refine vm_skip rfl ?_); intro r hr; simp only [h1, h2, h3, go_sem, ↓Nat.reduceBEq, ↓Nat.reduceAdd, ↓Nat.reduceSub, ↓Nat.reduceMul, ↓Nat.reduceEqDiff, ↓Nat.reducePow, ↓Nat.reduceLeDiff, ↓Nat.reduceLT, ↓Int.reduceLE, ↓Int.reduceLT, ↓reduceIte, ↓reduceCtorEq]; subst hr
      (first | refine vm_if rfl ?_ | refine vm_no rfl ?_ | refine vm_skip rfl ?_); intro r hr; simp only [h1, h2, h3, go_sem, ↓Nat.reduceBEq, ↓Nat.reduceAdd, ↓Nat.reduceSub, ↓Nat.reduceMul, ↓Nat.reduceEqDiff, ↓Nat.reducePow, ↓Nat.reduceLeDiff, ↓Nat.reduceLT, ↓Int.reduceLE, ↓Int.reduceLT, ↓reduceIte, ↓reduceCtorEq]; subst hr
      (refine vm_op ?_); intro r hr; simp only [h1, h2, h3, go_sem, ↓Nat.reduceBEq, ↓Nat.reduceAdd, ↓Nat.reduceSub, ↓Nat.reduceMul, ↓Nat.reduceEqDiff, ↓Nat.reducePow, ↓Nat.reduceLeDiff, ↓Nat.reduceLT, ↓Int.reduceLE, ↓Int.reduceLT, ↓reduceIte, ↓reduceCtorEq]; subst hr
      exact hQ
      first | refine Tr.cond (b := true) rfl (fun _ => ?_) (fun h => by cases h) | refine Tr.seq (Tr.cond (b := true) rfl (fun _ => ?_) (fun h => by cases h))
      first | refine tr_seq_region (by rw [hE]; rfl) ?_ | (refine Tr.seq ?_; refine tr_seq_region (by rw [hE]; rfl) ?_)
      repeat (refine vc_op rfl ?_; simp only [go_sem, ↓Nat.reduceBEq, ↓Nat.reduceAdd, ↓Nat.reduceSub, ↓Nat.reduceMul, ↓Nat.reduceEqDiff, ↓Nat.reducePow, ↓Nat.reduceLeDiff, ↓Nat.reduceLT, ↓Int.reduceLE, ↓Int.reduceLT, ↓reduceIte, ↓reduceCtorEq])
      refine vc_nil ?_
      refine Tr.ret ?_
      simp only [attR, hi, Try.f20, go_sem, ↓Nat.reduceBEq, ↓Nat.reduceAdd, ↓Nat.reduceSub, ↓Nat.reduceMul, ↓Nat.reduceEqDiff, ↓Nat.reducePow, ↓Nat.reduceLeDiff, ↓Nat.reduceLT, ↓Int.reduceLE, ↓Int.reduceLT, ↓reduceIte, ↓reduceCtorEq]
  | true =>
    obtain ⟨h1, h2⟩ := rIsT hi
    have hl : l.length = 123 := by
      have := of_decide_eq_true h1
      omega
    have h1 : decide ((l.length : Int) = 123) = true := h1
    have h2 : nth (l.map bav) 0 = some (.int .u8 2) := h2
    have n1 : nth (l.map bav) 1 = some (bav (l.getD 1 0)) := nth_getD l 1 (by omega)
    have n2 : nth (l.map bav) 2 = some (bav (l.getD 2 0)) := nth_getD l 2 (by omega)
    have hrv : IntKind.i64.wrap (IntKind.i64.wrap (256 * IntKind.i64.wrap ((l.getD 1 0).toNat : Int)) + IntKind.i64.wrap ((l.getD 2 0).toNat : Int)) = valOf l := rval_valOf l (by omega)
    generalize l.getD 1 0 = c1 at n1 hrv
    generalize l.getD 2 0 = c2 at n2 hrv
    have b1 : bav c1 = .int .u8 c1.toNat := rfl
    have b2 : bav c2 = .int .u8 c2.toNat := rfl
    refine pure_of_tr Try.func20 rfl (Nat.le_of_ble_eq_true rfl) rfl fun E hE hP => ?_
    first | refine tr_seq_region (by rw [hE]; rfl) ?_ | (refine Tr.seq ?_; refine tr_seq_region (by rw [hE]; rfl) ?_)
    repeat (refine vc_op rfl ?_; simp only [go_sem, ↓Nat.reduceBEq, ↓Nat.reduceAdd, ↓Nat.reduceSub, ↓Nat.reduceMul, ↓Nat.reduceEqDiff, ↓Nat.reducePow, ↓Nat.reduceLeDiff, ↓Nat.reduceLT, ↓Int.reduceLE, ↓Int.reduceLT, ↓reduceIte, ↓reduceCtorEq])
    refine vc_nil ?_
    first | apply tr_m (by rw [hE]; rfl) | (refine Tr.seq ?_; apply tr_m (by rw [hE]; rfl))
    intro Q hQ
    simp only [List.toList_toArray, List.map_cons, List.map_nil, mo, guardSlot, Option.map_some, Option.map_none, List.getElem?_toArray, List.getElem?_cons_succ, List.getElem?_cons_zero, Option.bind_some]
    (refine vm_op ?_); intro r hr; simp only [h1, h2, eq_self, go_sem, ↓Nat.reduceBEq, ↓Nat.reduceAdd, ↓Nat.reduceSub, ↓Nat.reduceMul, ↓Nat.reduceEqDiff, ↓Nat.reducePow, ↓Nat.reduceLeDiff, ↓Nat.reduceLT, ↓Int.reduceLE, ↓Int.reduceLT, ↓reduceIte, ↓reduceCtorEq]; subst hr
    (refine vm_op ?_); intro r hr; simp only [h1, h2, eq_self, go_sem, ↓Nat.reduceBEq, ↓Nat.reduceAdd, ↓Nat.reduceSub, ↓Nat.reduceMul, ↓Nat.reduceEqDiff, ↓Nat.reducePow, ↓Nat.reduceLeDiff, ↓Nat.reduceLT, ↓Int.reduceLE, ↓Int.reduceLT, ↓reduceIte, ↓reduceCtorEq]; subst hr
    (refine vm_op ?_); intro r hr; simp only [h1, h2, eq_self, go_sem, ↓Nat.reduceBEq, ↓Nat.reduceAdd, ↓Nat.reduceSub, ↓Nat.reduceMul, ↓Nat.reduceEqDiff, ↓Nat.reducePow, ↓Nat.reduceLeDiff, ↓Nat.reduceLT, ↓Int.reduceLE, ↓Int.reduceLT, ↓reduceIte, ↓reduceCtorEq]; subst hr
    (refine vm_op ?_); intro r hr; simp only [h1, h2, eq_self, go_sem, ↓Nat.reduceBEq, ↓Nat.reduceAdd, ↓Nat.reduceSub, ↓Nat.reduceMul, ↓Nat.reduceEqDiff, ↓Nat.reducePow, ↓Nat.reduceLeDiff, ↓Nat.reduceLT, ↓Int.reduceLE, ↓Int.reduceLT, ↓reduceIte, ↓reduceCtorEq]; subst hr
    (first | refine vm_if rfl ?_ | refine vm_no rfl ?_ | refine vm_skip rfl ?_); intro r hr; simp only [h1, h2, eq_self, go_sem, ↓Nat.reduceBEq, ↓Nat.reduceAdd, ↓Nat.reduceSub, ↓Nat.reduceMul, ↓Nat.reduceEqDiff, ↓Nat.reducePow, ↓Nat.reduceLeDiff, ↓Nat.reduceLT, ↓Int.reduceLE, ↓Int.reduceLT, ↓reduceIte, ↓reduceCtorEq]; subst hr
    (first | refine vm_if rfl ?_ | refine vm_no rfl ?_ | refine vm_skip rfl ?_); intro r hr; simp only [h1, h2, eq_self, go_sem, ↓Nat.reduceBEq, ↓Nat.reduceAdd, ↓Nat.reduceSub, ↓Nat.reduceMul, ↓Nat.reduceEqDiff, ↓Nat.reducePow, ↓Nat.reduceLeDiff, ↓Nat.reduceLT, ↓Int.reduceLE, ↓Int.reduceLT, ↓reduceIte, ↓reduceCtorEq]; subst hr
    (first | refine vm_if rfl ?_ | refine vm_no rfl ?_ | refine vm_skip rfl ?_); intro r hr; simp only [h1, h2, eq_self, go_sem, ↓Nat.reduceBEq, ↓Nat.reduceAdd, ↓Nat.reduceSub, ↓Nat.reduceMul, ↓Nat.reduceEqDiff, ↓Nat.reducePow, ↓Nat.reduceLeDiff, ↓Nat.reduceLT, ↓Int.reduceLE, ↓Int.reduceLT, ↓reduceIte, ↓reduceCtorEq]; subst hr
    (first | refine vm_if rfl ?_ | refine vm_no rfl ?_ | refine vm_skip rfl ?_); intro r hr; simp only [h1, h2, eq_self, go_sem, ↓Nat.reduceBEq, ↓Nat.reduceAdd, ↓Nat.reduceSub, ↓Nat.reduceMul, ↓Nat.reduceEqDiff, ↓Nat.reducePow, ↓Nat.reduceLeDiff, ↓Nat.reduceLT, ↓Int.reduceLE, ↓Int.reduceLT, ↓reduceIte, ↓reduceCtorEq]; subst hr
    (refine vm_op ?_); intro r hr; simp only [h1, h2, eq_self, go_sem, ↓Nat.reduceBEq, ↓Nat.reduceAdd, ↓Nat.reduceSub, ↓Nat.reduceMul, ↓Nat.reduceEqDiff, ↓Nat.reducePow, ↓Nat.reduceLeDiff, ↓Nat.reduceLT, ↓Int.reduceLE, ↓Int.reduceLT, ↓reduceIte, ↓reduceCtorEq]; subst hr
    exact hQ
    first | refine Tr.cond rfl (fun h => by cases h) (fun _ => ?_) | refine Tr.seq (Tr.cond rfl (fun h => by cases h) (fun _ => ?_))
    refine Tr.skip ?_
    simp only [thenK]
    have hZ : Fun [(47, [.sl (l.map bav) false, .int .i64 3], .int .u64 (numOf ((l.drop 3).take 8))), (46, [.sl (l.map bav) false, .int .i64 11], .root (rootOf (l.drop 11)))] := by
      intro e1 g1 e2 g2 g3 g4
      simp only [List.mem_cons, List.not_mem_nil, or_false] at g1 g2
      rcases g1 with rfl | rfl <;> rcases g2 with rfl | rfl <;> first | rfl | (exact absurd g3 (by simp))
    apply tr_mz mixed [] [46, 47] _ hZ rfl (by rw [hE]; rfl) (by kernel_rfl)
    intro Q hQ
    simp only [List.toList_toArray, List.map_cons, List.map_nil, mo, guardSlot, Option.map_some, Option.map_none, List.getElem?_toArray, List.getElem?_cons_succ, List.getElem?_cons_zero, Option.bind_some]
    (refine vz_q rfl ?_); intro r hr; simp only [n1, n2, b1, b2, hrv, go_sem, ↓Nat.reduceBEq, ↓Nat.reduceAdd, ↓Nat.reduceSub, ↓Nat.reduceMul, ↓Nat.reduceEqDiff, ↓Nat.reducePow, ↓Nat.reduceLeDiff, ↓Nat.reduceLT, ↓Int.reduceLE, ↓Int.reduceLT, ↓reduceIte, ↓reduceCtorEq]; subst hr
    (refine vz_q rfl ?_); intro r hr; simp only [n1, n2, b1, b2, hrv, go_sem, ↓Nat.reduceBEq, ↓Nat.reduceAdd, ↓Nat.reduceSub, ↓Nat.reduceMul, ↓Nat.reduceEqDiff, ↓Nat.reducePow, ↓Nat.reduceLeDiff, ↓Nat.reduceLT, ↓Int.reduceLE, ↓Int.reduceLT, ↓reduceIte, ↓reduceCtorEq]; subst hr
    (refine vz_q rfl ?_); intro r hr; simp only [n1, n2, b1, b2, hrv, go_sem, ↓Nat.reduceBEq, ↓Nat.reduceAdd, ↓Nat.reduceSub, ↓Nat.reduceMul, ↓Nat.reduceEqDiff, ↓Nat.reducePow, ↓Nat.reduceLeDiff, ↓Nat.reduceLT, ↓Int.reduceLE, ↓Int.reduceLT, ↓reduceIte, ↓reduceCtorEq]; subst hr
    (refine vz_q rfl ?_); intro r hr; simp only [n1, n2, b1, b2, hrv, go_sem, ↓Nat.reduceBEq, ↓Nat.reduceAdd, ↓Nat.reduceSub, ↓Nat.reduceMul, ↓Nat.reduceEqDiff, ↓Nat.reducePow, ↓Nat.reduceLeDiff, ↓Nat.reduceLT, ↓Int.reduceLE, ↓Int.reduceLT, ↓reduceIte, ↓reduceCtorEq]; subst hr
    (refine vz_q rfl ?_); intro r hr; simp only [n1, n2, b1, b2, hrv, go_sem, ↓Nat.reduceBEq, ↓Nat.reduceAdd, ↓Nat.reduceSub, ↓Nat.reduceMul, ↓Nat.reduceEqDiff, ↓Nat.reducePow, ↓Nat.reduceLeDiff, ↓Nat.reduceLT, ↓Int.reduceLE, ↓Int.reduceLT, ↓reduceIte, ↓reduceCtorEq]; subst hr
    (refine vz_q rfl ?_); intro r hr; simp only [n1, n2, b1, b2, hrv, go_sem, ↓Nat.reduceBEq, ↓Nat.reduceAdd, ↓Nat.reduceSub, ↓Nat.reduceMul, ↓Nat.reduceEqDiff, ↓Nat.reducePow, ↓Nat.reduceLeDiff, ↓Nat.reduceLT, ↓Int.reduceLE, ↓Int.reduceLT, ↓reduceIte, ↓reduceCtorEq]; subst hr
    (refine vz_q rfl ?_); intro r hr; simp only [n1, n2, b1, b2, hrv, go_sem, ↓Nat.reduceBEq, ↓Nat.reduceAdd, ↓Nat.reduceSub, ↓Nat.reduceMul, ↓Nat.reduceEqDiff, ↓Nat.reducePow, ↓Nat.reduceLeDiff, ↓Nat.reduceLT, ↓Int.reduceLE, ↓Int.reduceLT, ↓reduceIte, ↓reduceCtorEq]; subst hr
    (refine vz_q rfl ?_); intro r hr; simp only [n1, n2, b1, b2, hrv, go_sem, ↓Nat.reduceBEq, ↓Nat.reduceAdd, ↓Nat.reduceSub, ↓Nat.reduceMul, ↓Nat.reduceEqDiff, ↓Nat.reducePow, ↓Nat.reduceLeDiff, ↓Nat.reduceLT, ↓Int.reduceLE, ↓Int.reduceLT, ↓reduceIte, ↓reduceCtorEq]; subst hr
    (refine vz_q rfl ?_); intro r hr; simp only [n1, n2, b1, b2, hrv, go_sem, ↓Nat.reduceBEq, ↓Nat.reduceAdd, ↓Nat.reduceSub, ↓Nat.reduceMul, ↓Nat.reduceEqDiff, ↓Nat.reducePow, ↓Nat.reduceLeDiff, ↓Nat.reduceLT, ↓Int.reduceLE, ↓Int.reduceLT, ↓reduceIte, ↓reduceCtorEq]; subst hr
    (refine vz_q rfl ?_); intro r hr; simp only [n1, n2, b1, b2, hrv, go_sem, ↓Nat.reduceBEq, ↓Nat.reduceAdd, ↓Nat.reduceSub, ↓Nat.reduceMul, ↓Nat.reduceEqDiff, ↓Nat.reducePow, ↓Nat.reduceLeDiff, ↓Nat.reduceLT, ↓Int.reduceLE, ↓Int.reduceLT, ↓reduceIte, ↓reduceCtorEq]; subst hr
    (refine vz_q rfl ?_); intro r hr; simp only [n1, n2, b1, b2, hrv, go_sem, ↓Nat.reduceBEq, ↓Nat.reduceAdd, ↓Nat.reduceSub, ↓Nat.reduceMul, ↓Nat.reduceEqDiff, ↓Nat.reducePow, ↓Nat.reduceLeDiff, ↓Nat.reduceLT, ↓Int.reduceLE, ↓Int.reduceLT, ↓reduceIte, ↓reduceCtorEq]; subst hr
    (refine vz_c rfl rfl ?_); intro r hr; simp only [n1, n2, b1, b2, hrv, go_sem, ↓Nat.reduceBEq, ↓Nat.reduceAdd, ↓Nat.reduceSub, ↓Nat.reduceMul, ↓Nat.reduceEqDiff, ↓Nat.reducePow, ↓Nat.reduceLeDiff, ↓Nat.reduceLT, ↓Int.reduceLE, ↓Int.reduceLT, ↓reduceIte, ↓reduceCtorEq]
    refine call_z rfl rfl rfl rfl (enters_of Try.func47 (by kernel_rfl) rfl) (.head _) (numberAt_pure l 3 (by omega) (by omega)) rfl rfl rfl rfl ?_
    subst hr
    (refine vz_q rfl ?_); intro r hr; simp only [go_sem, ↓Nat.reduceBEq, ↓Nat.reduceAdd, ↓Nat.reduceSub, ↓Nat.reduceMul, ↓Nat.reduceEqDiff, ↓Nat.reducePow, ↓Nat.reduceLeDiff, ↓Nat.reduceLT, ↓Int.reduceLE, ↓Int.reduceLT, ↓reduceIte, ↓reduceCtorEq]; subst hr
    (refine vz_c rfl rfl ?_); intro r hr; simp only [go_sem, ↓Nat.reduceBEq, ↓Nat.reduceAdd, ↓Nat.reduceSub, ↓Nat.reduceMul, ↓Nat.reduceEqDiff, ↓Nat.reducePow, ↓Nat.reduceLeDiff, ↓Nat.reduceLT, ↓Int.reduceLE, ↓Int.reduceLT, ↓reduceIte, ↓reduceCtorEq]
    refine call_z rfl rfl rfl rfl (enters_of Try.func46 (by kernel_rfl) rfl) (.tail _ (.head _)) (rootAt_pure l 11 (by omega) (by omega)) rfl rfl rfl rfl ?_
    subst hr
    (refine vz_q rfl ?_); intro r hr; simp only [go_sem, ↓Nat.reduceBEq, ↓Nat.reduceAdd, ↓Nat.reduceSub, ↓Nat.reduceMul, ↓Nat.reduceEqDiff, ↓Nat.reducePow, ↓Nat.reduceLeDiff, ↓Nat.reduceLT, ↓Int.reduceLE, ↓Int.reduceLT, ↓reduceIte, ↓reduceCtorEq]; subst hr
    (refine vz_x rfl rfl ?_); intro r hr; simp only [go_sem, ↓Nat.reduceBEq, ↓Nat.reduceAdd, ↓Nat.reduceSub, ↓Nat.reduceMul, ↓Nat.reduceEqDiff, ↓Nat.reducePow, ↓Nat.reduceLeDiff, ↓Nat.reduceLT, ↓Int.reduceLE, ↓Int.reduceLT, ↓reduceIte, ↓reduceCtorEq]; subst hr
    (refine vz_x rfl rfl ?_); intro r hr; simp only [go_sem, ↓Nat.reduceBEq, ↓Nat.reduceAdd, ↓Nat.reduceSub, ↓Nat.reduceMul, ↓Nat.reduceEqDiff, ↓Nat.reducePow, ↓Nat.reduceLeDiff, ↓Nat.reduceLT, ↓Int.reduceLE, ↓Int.reduceLT, ↓reduceIte, ↓reduceCtorEq]; subst hr
    exact hQ
    first | apply tr_m (by rw [hE]; rfl) | (refine Tr.seq ?_; apply tr_m (by rw [hE]; rfl))
    intro Q hQ
    simp only [List.toList_toArray, List.map_cons, List.map_nil, mo, guardSlot, Option.map_some, Option.map_none, List.getElem?_toArray, List.getElem?_cons_succ, List.getElem?_cons_zero, Option.bind_some]
    (refine vm_op ?_); intro r hr; simp only [go_sem, ↓Nat.reduceBEq, ↓Nat.reduceAdd, ↓Nat.reduceSub, ↓Nat.reduceMul, ↓Nat.reduceEqDiff, ↓Nat.reducePow, ↓Nat.reduceLeDiff, ↓Nat.reduceLT, ↓Int.reduceLE, ↓Int.reduceLT, ↓reduceIte, ↓reduceCtorEq]; subst hr
    (refine vm_op ?_); intro r hr; simp only [go_sem, ↓Nat.reduceBEq, ↓Nat.reduceAdd, ↓Nat.reduceSub, ↓Nat.reduceMul, ↓Nat.reduceEqDiff, ↓Nat.reducePow, ↓Nat.reduceLeDiff, ↓Nat.reduceLT, ↓Int.reduceLE, ↓Int.reduceLT, ↓reduceIte, ↓reduceCtorEq]
    refine call_fn rfl rfl rfl rfl (enters_of Try.func47 (by kernel_rfl) rfl) (numberAt_pure l 43 (by omega) (by omega)) rfl rfl rfl ?_
    simp only [go_sem, ↓Nat.reduceBEq, ↓Nat.reduceAdd, ↓Nat.reduceSub, ↓Nat.reduceMul, ↓Nat.reduceEqDiff, ↓Nat.reducePow, ↓Nat.reduceLeDiff, ↓Nat.reduceLT, ↓Int.reduceLE, ↓Int.reduceLT, ↓reduceIte, ↓reduceCtorEq]
    subst hr
    (refine vm_op ?_); intro r hr; simp only [go_sem, ↓Nat.reduceBEq, ↓Nat.reduceAdd, ↓Nat.reduceSub, ↓Nat.reduceMul, ↓Nat.reduceEqDiff, ↓Nat.reducePow, ↓Nat.reduceLeDiff, ↓Nat.reduceLT, ↓Int.reduceLE, ↓Int.reduceLT, ↓reduceIte, ↓reduceCtorEq]; subst hr
    (refine vm_op ?_); intro r hr; simp only [go_sem, ↓Nat.reduceBEq, ↓Nat.reduceAdd, ↓Nat.reduceSub, ↓Nat.reduceMul, ↓Nat.reduceEqDiff, ↓Nat.reducePow, ↓Nat.reduceLeDiff, ↓Nat.reduceLT, ↓Int.reduceLE, ↓Int.reduceLT, ↓reduceIte, ↓reduceCtorEq]
    refine call_fn rfl rfl rfl rfl (enters_of Try.func46 (by kernel_rfl) rfl) (rootAt_pure l 51 (by omega) (by omega)) rfl rfl rfl ?_
    simp only [go_sem, ↓Nat.reduceBEq, ↓Nat.reduceAdd, ↓Nat.reduceSub, ↓Nat.reduceMul, ↓Nat.reduceEqDiff, ↓Nat.reducePow, ↓Nat.reduceLeDiff, ↓Nat.reduceLT, ↓Int.reduceLE, ↓Int.reduceLT, ↓reduceIte, ↓reduceCtorEq]
    subst hr
    (refine vm_op ?_); intro r hr; simp only [go_sem, ↓Nat.reduceBEq, ↓Nat.reduceAdd, ↓Nat.reduceSub, ↓Nat.reduceMul, ↓Nat.reduceEqDiff, ↓Nat.reducePow, ↓Nat.reduceLeDiff, ↓Nat.reduceLT, ↓Int.reduceLE, ↓Int.reduceLT, ↓reduceIte, ↓reduceCtorEq]; subst hr
    (refine vm_op ?_); intro r hr; simp only [go_sem, ↓Nat.reduceBEq, ↓Nat.reduceAdd, ↓Nat.reduceSub, ↓Nat.reduceMul, ↓Nat.reduceEqDiff, ↓Nat.reducePow, ↓Nat.reduceLeDiff, ↓Nat.reduceLT, ↓Int.reduceLE, ↓Int.reduceLT, ↓reduceIte, ↓reduceCtorEq]; subst hr
    (refine vm_op ?_); intro r hr; simp only [go_sem, ↓Nat.reduceBEq, ↓Nat.reduceAdd, ↓Nat.reduceSub, ↓Nat.reduceMul, ↓Nat.reduceEqDiff, ↓Nat.reducePow, ↓Nat.reduceLeDiff, ↓Nat.reduceLT, ↓Int.reduceLE, ↓Int.reduceLT, ↓reduceIte, ↓reduceCtorEq]; subst hr
    exact hQ
    first | apply tr_m (by rw [hE]; rfl) | (refine Tr.seq ?_; apply tr_m (by rw [hE]; rfl))
    intro Q hQ
    simp only [List.toList_toArray, List.map_cons, List.map_nil, mo, guardSlot, Option.map_some, Option.map_none, List.getElem?_toArray, List.getElem?_cons_succ, List.getElem?_cons_zero, Option.bind_some]
    (refine vm_op ?_); intro r hr; simp only [go_sem, ↓Nat.reduceBEq, ↓Nat.reduceAdd, ↓Nat.reduceSub, ↓Nat.reduceMul, ↓Nat.reduceEqDiff, ↓Nat.reducePow, ↓Nat.reduceLeDiff, ↓Nat.reduceLT, ↓Int.reduceLE, ↓Int.reduceLT, ↓reduceIte, ↓reduceCtorEq]; subst hr
    (refine vm_op ?_); intro r hr; simp only [go_sem, ↓Nat.reduceBEq, ↓Nat.reduceAdd, ↓Nat.reduceSub, ↓Nat.reduceMul, ↓Nat.reduceEqDiff, ↓Nat.reducePow, ↓Nat.reduceLeDiff, ↓Nat.reduceLT, ↓Int.reduceLE, ↓Int.reduceLT, ↓reduceIte, ↓reduceCtorEq]
    refine call_fn rfl rfl rfl rfl (enters_of Try.func47 (by kernel_rfl) rfl) (numberAt_pure l 83 (by omega) (by omega)) rfl rfl rfl ?_
    simp only [go_sem, ↓Nat.reduceBEq, ↓Nat.reduceAdd, ↓Nat.reduceSub, ↓Nat.reduceMul, ↓Nat.reduceEqDiff, ↓Nat.reducePow, ↓Nat.reduceLeDiff, ↓Nat.reduceLT, ↓Int.reduceLE, ↓Int.reduceLT, ↓reduceIte, ↓reduceCtorEq]
    subst hr
    (refine vm_op ?_); intro r hr; simp only [go_sem, ↓Nat.reduceBEq, ↓Nat.reduceAdd, ↓Nat.reduceSub, ↓Nat.reduceMul, ↓Nat.reduceEqDiff, ↓Nat.reducePow, ↓Nat.reduceLeDiff, ↓Nat.reduceLT, ↓Int.reduceLE, ↓Int.reduceLT, ↓reduceIte, ↓reduceCtorEq]; subst hr
    (refine vm_op ?_); intro r hr; simp only [go_sem, ↓Nat.reduceBEq, ↓Nat.reduceAdd, ↓Nat.reduceSub, ↓Nat.reduceMul, ↓Nat.reduceEqDiff, ↓Nat.reducePow, ↓Nat.reduceLeDiff, ↓Nat.reduceLT, ↓Int.reduceLE, ↓Int.reduceLT, ↓reduceIte, ↓reduceCtorEq]
    refine call_fn rfl rfl rfl rfl (enters_of Try.func46 (by kernel_rfl) rfl) (rootAt_pure l 91 (by omega) (by omega)) rfl rfl rfl ?_
    simp only [go_sem, ↓Nat.reduceBEq, ↓Nat.reduceAdd, ↓Nat.reduceSub, ↓Nat.reduceMul, ↓Nat.reduceEqDiff, ↓Nat.reducePow, ↓Nat.reduceLeDiff, ↓Nat.reduceLT, ↓Int.reduceLE, ↓Int.reduceLT, ↓reduceIte, ↓reduceCtorEq]
    subst hr
    (refine vm_op ?_); intro r hr; simp only [go_sem, ↓Nat.reduceBEq, ↓Nat.reduceAdd, ↓Nat.reduceSub, ↓Nat.reduceMul, ↓Nat.reduceEqDiff, ↓Nat.reducePow, ↓Nat.reduceLeDiff, ↓Nat.reduceLT, ↓Int.reduceLE, ↓Int.reduceLT, ↓reduceIte, ↓reduceCtorEq]; subst hr
    (refine vm_op ?_); intro r hr; simp only [go_sem, ↓Nat.reduceBEq, ↓Nat.reduceAdd, ↓Nat.reduceSub, ↓Nat.reduceMul, ↓Nat.reduceEqDiff, ↓Nat.reducePow, ↓Nat.reduceLeDiff, ↓Nat.reduceLT, ↓Int.reduceLE, ↓Int.reduceLT, ↓reduceIte, ↓reduceCtorEq]; subst hr
    (refine vm_op ?_); intro r hr; simp only [go_sem, ↓Nat.reduceBEq, ↓Nat.reduceAdd, ↓Nat.reduceSub, ↓Nat.reduceMul, ↓Nat.reduceEqDiff, ↓Nat.reducePow, ↓Nat.reduceLeDiff, ↓Nat.reduceLT, ↓Int.reduceLE, ↓Int.reduceLT, ↓reduceIte, ↓reduceCtorEq]; subst hr
    exact hQ
    first | refine tr_seq_region (by rw [hE]; rfl) ?_ | (refine Tr.seq ?_; refine tr_seq_region (by rw [hE]; rfl) ?_)
    repeat (refine vc_op rfl ?_; simp only [go_sem, ↓Nat.reduceBEq, ↓Nat.reduceAdd, ↓Nat.reduceSub, ↓Nat.reduceMul, ↓Nat.reduceEqDiff, ↓Nat.reducePow, ↓Nat.reduceLeDiff, ↓Nat.reduceLT, ↓Int.reduceLE, ↓Int.reduceLT, ↓reduceIte, ↓reduceCtorEq])
    refine vc_nil ?_
    have d1 : l.drop 51 = (l.drop 43).drop 8 := by rw [List.drop_drop]
    have d2 : l.drop 91 = (l.drop 83).drop 8 := by rw [List.drop_drop]
    refine Tr.ret ?_
    simp only [attR, hi, attOf, checkOf, d1, d2, Try.f20, go_sem, ↓Nat.reduceBEq, ↓Nat.reduceAdd, ↓Nat.reduceSub, ↓Nat.reduceMul, ↓Nat.reduceEqDiff, ↓Nat.reducePow, ↓Nat.reduceLeDiff, ↓Nat.reduceLT, ↓Int.reduceLE, ↓Int.reduceLT, ↓reduceIte, ↓reduceCtorEq]
