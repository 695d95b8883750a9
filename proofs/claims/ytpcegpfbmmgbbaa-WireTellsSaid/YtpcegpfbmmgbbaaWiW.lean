/- What the document reads. -/
import Derived.Test.YtpcegpfbmmgbbaaWiV
set_option linter.unusedSimpArgs false
namespace Go.Proofs.Ytpcegpfbmmgbbaa
open Go Go.Ab

def rstep (n : Int) (b : UInt8) : Int := IntKind.u64.wrap (IntKind.u64.wrap (256 * n) + IntKind.u64.wrap b.toNat)
def rnum (l : List UInt8) : Int := l.foldl rstep 0
theorem rnum_next {bs : List UInt8} {i : Nat} {b : UInt8} (h : i < bs.length) (hb : bs[i] = b) : rnum (bs.take (i + 1)) = rstep (rnum (bs.take i)) b := by
  rw [take_next h hb, rnum, List.foldl_append]; rfl
theorem rstep_nat (m : Nat) (b : UInt8) (h : m < 2 ^ 56) : rstep (m : Int) b = ((m * 256 + b.toNat : Nat) : Int) := by
  have hb := b.toNat_lt
  rw [rstep, show 256 * (m : Int) = ((256 * m : Nat) : Int) from by rw [Int.natCast_mul]; rfl, wrap_u64 _ (by omega), wrap_u64 b.toNat (by omega), ← Int.natCast_add, wrap_u64 _ (by omega), Nat.mul_comm]
theorem rfold_nat (l : List UInt8) : ∀ (m : Nat), (m + 1) * 256 ^ l.length ≤ 2 ^ 64 → l.foldl rstep (m : Int) = ((l.foldl (fun n b => n * 256 + b.toNat) m : Nat) : Int) := by
  induction l with
  | nil => intro m _; rfl
  | cons b l ih =>
    intro m h
    have hp : 0 < 256 ^ l.length := Nat.pow_pos (by decide)
    rw [List.length_cons, Nat.pow_succ] at h
    have hm : m < 2 ^ 56 := by
      have h1 : (m + 1) * 256 ≤ (m + 1) * (256 ^ l.length * 256) := Nat.mul_le_mul_left _ (Nat.le_mul_of_pos_left 256 hp)
      omega
    rw [List.foldl_cons, List.foldl_cons, rstep_nat m b hm]
    apply ih
    have hb := b.toNat_lt
    calc (m * 256 + b.toNat + 1) * 256 ^ l.length ≤ ((m + 1) * 256) * 256 ^ l.length := Nat.mul_le_mul_right _ (by omega)
      _ = (m + 1) * (256 ^ l.length * 256) := by rw [Nat.mul_assoc, Nat.mul_comm 256]
      _ ≤ _ := h
theorem rnum_numOf (l : List UInt8) (h : l.length ≤ 8) : rnum l = numOf l := by
  have h1 : 256 ^ l.length ≤ 256 ^ 8 := Nat.pow_le_pow_right (by decide) h
  rw [numOf_nat l h]
  exact rfold_nat l 0 (by omega)

def st47 (l : List UInt8) (p : Nat) (i : Nat) : S where
  fr := [(6, .int .i64 i), (5, .int .u64 (rnum ((l.drop p).take i))), (0, .sl (l.map bav) false), (1, .int .i64 p)]
  hp := []
  nx := 0
theorem at_nth (l : List UInt8) (p i : Nat) (h : p + i < l.length) (hl : l.length ≤ 1000) : nth (l.map bav) (IntKind.i64.wrap ((p : Int) + (i : Int))) = some (bav l[p + i]) := by
  rw [add_wrap p i (by omega)]
  exact nth_map_lt bav l (p + i) h

set_option maxRecDepth 4000 in
theorem numberAt_pure (l : List UInt8) (p : Nat) (hp : p + 8 ≤ l.length) (hl : l.length ≤ 1000) : Pure Try.prog 47 [.sl (l.map bav) false, .int .i64 p] (.int .u64 (numOf ((l.drop p).take 8))) := by
  refine pure_of_tr Try.func47 rfl (Nat.le_of_ble_eq_true rfl) rfl fun E hE hP => ?_
  first | refine tr_seq_region (by rw [hE]; rfl) ?_ | (refine Tr.seq ?_; refine tr_seq_region (by rw [hE]; rfl) ?_)
  repeat (refine vc_op rfl ?_; simp only [go_sem, ↓Nat.reduceBEq, ↓Nat.reduceAdd, ↓Nat.reduceSub, ↓Nat.reduceMul, ↓Nat.reduceEqDiff, ↓Nat.reducePow, ↓Nat.reduceLeDiff, ↓Nat.reduceLT, ↓Int.reduceLE, ↓Int.reduceLT, ↓reduceIte, ↓reduceCtorEq])
  refine vc_nil ?_
  first | refine tr_seq_region (by rw [hE]; rfl) ?_ | (refine Tr.seq ?_; refine tr_seq_region (by rw [hE]; rfl) ?_)
  repeat (refine vc_op rfl ?_; simp only [go_sem, ↓Nat.reduceBEq, ↓Nat.reduceAdd, ↓Nat.reduceSub, ↓Nat.reduceMul, ↓Nat.reduceEqDiff, ↓Nat.reducePow, ↓Nat.reduceLeDiff, ↓Nat.reduceLT, ↓Int.reduceLE, ↓Int.reduceLT, ↓reduceIte, ↓reduceCtorEq])
  refine vc_nil ?_
  first | refine tr_seq_region (by rw [hE]; rfl) ?_ | (refine Tr.seq ?_; refine tr_seq_region (by rw [hE]; rfl) ?_)
  repeat (refine vc_op rfl ?_; simp only [go_sem, ↓Nat.reduceBEq, ↓Nat.reduceAdd, ↓Nat.reduceSub, ↓Nat.reduceMul, ↓Nat.reduceEqDiff, ↓Nat.reducePow, ↓Nat.reduceLeDiff, ↓Nat.reduceLT, ↓Int.reduceLE, ↓Int.reduceLT, ↓reduceIte, ↓reduceCtorEq])
  refine vc_nil ?_
  first | refine Tr.block ?_ | (refine Tr.seq ?_; refine Tr.block ?_)
  refine Tr.loop (st47 l p) (fun i => i ≤ 8) (fun i => 8 - i) 0 (Nat.zero_le _) ?_ ?_
  · refine wk_ren (fun n => n) ?_ ?_ rfl rfl rfl
    · repeat' (first | exact rfl | exact trivial | constructor)
    · repeat' (first | exact rfl | exact trivial | constructor)
  · intro i hi
    unfold st47
    first | refine tr_seq_region (by rw [hE]; rfl) ?_ | (refine Tr.seq ?_; refine tr_seq_region (by rw [hE]; rfl) ?_)
    repeat (refine vc_op rfl ?_; simp only [go_sem, ↓Nat.reduceBEq, ↓Nat.reduceAdd, ↓Nat.reduceSub, ↓Nat.reduceMul, ↓Nat.reduceEqDiff, ↓Nat.reducePow, ↓Nat.reduceLeDiff, ↓Nat.reduceLT, ↓Int.reduceLE, ↓Int.reduceLT, ↓reduceIte, ↓reduceCtorEq])
    refine vc_nil ?_
    first | refine Tr.cond rfl (fun h1 => ?_) (fun h1 => ?_) | refine Tr.seq (Tr.cond rfl (fun h1 => ?_) (fun h1 => ?_))
    · refine Tr.skip ?_
      try simp only [blockK, thenK, ↓reduceIte]
      have hi8 : i < 8 := by have := of_decide_eq_true h1; omega
      have hat := at_nth l p i (by omega) hl
      have hlt : i < (l.drop p).length := by rw [List.length_drop]; omega
      have hge : (l.drop p)[i] = l[p + i]'(by omega) := List.getElem_drop
      have hnx := rnum_next hlt hge
      generalize l[p + i]'(by omega) = b at hat hnx
      have hbb : bav b = .int .u8 b.toNat := rfl
      have hw := wrap_next (n := i) (by omega)
      first | refine Tr.block ?_ | (refine Tr.seq ?_; refine Tr.block ?_)
      refine tr_region (by rw [hE]; rfl) ?_
      repeat (refine vc_op rfl ?_; simp only [hat, hbb, go_sem, ↓Nat.reduceBEq, ↓Nat.reduceAdd, ↓Nat.reduceSub, ↓Nat.reduceMul, ↓Nat.reduceEqDiff, ↓Nat.reducePow, ↓Nat.reduceLeDiff, ↓Nat.reduceLT, ↓Int.reduceLE, ↓Int.reduceLT, ↓reduceIte, ↓reduceCtorEq])
      refine vc_nil ?_
      try simp only [blockK, thenK, ↓reduceIte]
      refine tr_region (by rw [hE]; rfl) ?_
      repeat (refine vc_op rfl ?_; simp only [hw, go_sem, ↓Nat.reduceBEq, ↓Nat.reduceAdd, ↓Nat.reduceSub, ↓Nat.reduceMul, ↓Nat.reduceEqDiff, ↓Nat.reducePow, ↓Nat.reduceLeDiff, ↓Nat.reduceLT, ↓Int.reduceLE, ↓Int.reduceLT, ↓reduceIte, ↓reduceCtorEq])
      refine vc_nil ?_
      try simp only [blockK, thenK, ↓reduceIte]
      refine ⟨i + 1, by omega, by omega, ?_⟩
      rw [hnx]
      refine wk_ren (fun n => n) ?_ ?_ rfl rfl rfl
      · repeat' (first | exact rfl | exact trivial | constructor)
      · repeat' (first | exact rfl | exact trivial | constructor)
    · refine Tr.exit ?_
      try simp only [blockK, thenK, ↓reduceIte]
      have hil : i = 8 := by
        have := of_decide_eq_false h1
        omega
      subst hil
      rw [rnum_numOf _ (by rw [List.length_take]; omega)]
      first | refine tr_seq_region (by rw [hE]; rfl) ?_ | (refine Tr.seq ?_; refine tr_seq_region (by rw [hE]; rfl) ?_)
      repeat (refine vc_op rfl ?_; simp only [go_sem, ↓Nat.reduceBEq, ↓Nat.reduceAdd, ↓Nat.reduceSub, ↓Nat.reduceMul, ↓Nat.reduceEqDiff, ↓Nat.reducePow, ↓Nat.reduceLeDiff, ↓Nat.reduceLT, ↓Int.reduceLE, ↓Int.reduceLT, ↓reduceIte, ↓reduceCtorEq])
      refine vc_nil ?_
      refine Tr.ret ?_
      simp only [Try.f47, go_sem, ↓Nat.reduceBEq, ↓Nat.reduceAdd, ↓Nat.reduceSub, ↓Nat.reduceMul, ↓Nat.reduceEqDiff, ↓Nat.reducePow, ↓Nat.reduceLeDiff, ↓Nat.reduceLT, ↓Int.reduceLE, ↓Int.reduceLT, ↓reduceIte, ↓reduceCtorEq]

def st46 (l : List UInt8) (p : Nat) (r : Root) (i : Nat) : S where
  fr := [(6, .int .i64 i), (5, .ptr 1 [] 0), (4, .ptr 0 [] 0), (0, .sl (l.map bav) false), (1, .int .i64 p)]
  hp := [(1, .var (.root r)), (0, .var (.root zroot))]
  nx := 2
theorem rootSet_next (r : Root) (l : List UInt8) (i : Nat) (hi : i < 32) (hl : i < l.length) (h : r.1.take i = l.take i) : (rootSet r i (l[i].toNat : Int)).1.take (i + 1) = l.take (i + 1) := by
  have h32 : i < r.1.length := by rw [root_len]; exact hi
  have e : (rootSet r i (l[i].toNat : Int)).1 = r.1.set i l[i] := by
    show r.1.set i (UInt8.ofNat (Int.toNat _)) = _
    rw [Int.toNat_natCast, UInt8.ofNat_toNat]
  rw [e, take_next (i := i) (by simpa using h32) (List.getElem_set_self (by simpa using h32)), take_next hl rfl, List.take_set, h]
  congr 1
  rw [List.set_eq_of_length_le (by simp; omega)]

set_option maxRecDepth 4000 in
theorem rootAt_pure (l : List UInt8) (p : Nat) (hp : p + 32 ≤ l.length) (hl : l.length ≤ 1000) : Pure Try.prog 46 [.sl (l.map bav) false, .int .i64 p] (.root (rootOf (l.drop p))) := by
  refine pure_of_tr Try.func46 rfl (Nat.le_of_ble_eq_true rfl) rfl fun E hE hP => ?_
  first | refine tr_seq_region (by rw [hE]; rfl) ?_ | (refine Tr.seq ?_; refine tr_seq_region (by rw [hE]; rfl) ?_)
  repeat (refine vc_op rfl ?_; simp only [go_sem, ↓Nat.reduceBEq, ↓Nat.reduceAdd, ↓Nat.reduceSub, ↓Nat.reduceMul, ↓Nat.reduceEqDiff, ↓Nat.reducePow, ↓Nat.reduceLeDiff, ↓Nat.reduceLT, ↓Int.reduceLE, ↓Int.reduceLT, ↓reduceIte, ↓reduceCtorEq])
  refine vc_nil ?_
  first | refine tr_seq_region (by rw [hE]; rfl) ?_ | (refine Tr.seq ?_; refine tr_seq_region (by rw [hE]; rfl) ?_)
  repeat (refine vc_op rfl ?_; simp only [go_sem, ↓Nat.reduceBEq, ↓Nat.reduceAdd, ↓Nat.reduceSub, ↓Nat.reduceMul, ↓Nat.reduceEqDiff, ↓Nat.reducePow, ↓Nat.reduceLeDiff, ↓Nat.reduceLT, ↓Int.reduceLE, ↓Int.reduceLT, ↓reduceIte, ↓reduceCtorEq])
  refine vc_nil ?_
  first | refine tr_seq_region (by rw [hE]; rfl) ?_ | (refine Tr.seq ?_; refine tr_seq_region (by rw [hE]; rfl) ?_)
  repeat (refine vc_op rfl ?_; simp only [go_sem, ↓Nat.reduceBEq, ↓Nat.reduceAdd, ↓Nat.reduceSub, ↓Nat.reduceMul, ↓Nat.reduceEqDiff, ↓Nat.reducePow, ↓Nat.reduceLeDiff, ↓Nat.reduceLT, ↓Int.reduceLE, ↓Int.reduceLT, ↓reduceIte, ↓reduceCtorEq])
  refine vc_nil ?_
  first | refine Tr.block ?_ | (refine Tr.seq ?_; refine Tr.block ?_)
  refine Tr.loop (fun q : Root × Nat => st46 l p q.1 q.2) (fun q => q.2 ≤ 32 ∧ q.1.1.take q.2 = (l.drop p).take q.2) (fun q => 32 - q.2) (zroot, 0) ⟨Nat.zero_le _, rfl⟩ ?_ ?_
  · show Wk E _ (st46 l p zroot 0)
    unfold st46
    refine wk_ren (fun | 1 => 16 | n => n) ?_ ?_ rfl rfl rfl
    · repeat' (first | exact rfl | exact trivial | constructor)
    · repeat' (first | exact rfl | exact trivial | constructor)
  · rintro ⟨r, i⟩ ⟨hi, hr⟩
    simp only at hi hr
    show Tr _ _ _ _ (st46 l p r i) _
    unfold st46
    first | refine tr_seq_region (by rw [hE]; rfl) ?_ | (refine Tr.seq ?_; refine tr_seq_region (by rw [hE]; rfl) ?_)
    repeat (refine vc_op rfl ?_; simp only [go_sem, ↓Nat.reduceBEq, ↓Nat.reduceAdd, ↓Nat.reduceSub, ↓Nat.reduceMul, ↓Nat.reduceEqDiff, ↓Nat.reducePow, ↓Nat.reduceLeDiff, ↓Nat.reduceLT, ↓Int.reduceLE, ↓Int.reduceLT, ↓reduceIte, ↓reduceCtorEq])
    refine vc_nil ?_
    first | refine Tr.cond rfl (fun h1 => ?_) (fun h1 => ?_) | refine Tr.seq (Tr.cond rfl (fun h1 => ?_) (fun h1 => ?_))
    · refine Tr.skip ?_
      try simp only [blockK, thenK, ↓reduceIte]
      have hi8 : i < 32 := by have := of_decide_eq_true h1; omega
      have hat := at_nth l p i (by omega) hl
      have hlt : i < (l.drop p).length := by rw [List.length_drop]; omega
      have hge : (l.drop p)[i] = l[p + i]'(by omega) := List.getElem_drop
      have hnx := rootSet_next r (l.drop p) i hi8 hlt hr
      rw [hge] at hnx
      generalize l[p + i]'(by omega) = b at hat hnx
      have hbb : bav b = .int .u8 b.toNat := rfl
      have hw := wrap_next (n := i) (by omega)
      have hb2 := b.toNat_lt
      have hc : (i < 32 ∧ (0 : Int) ≤ (b.toNat : Int) ∧ (b.toNat : Int) < 256) = True := eq_true ⟨hi8, by omega, by omega⟩
      first | refine Tr.block ?_ | (refine Tr.seq ?_; refine Tr.block ?_)
      apply tr_ml (by rw [hE]; rfl)
      intro Q hQ
      simp only [List.toList_toArray, List.map_cons, List.map_nil, mo, guardSlot, Option.map_some, Option.map_none, List.getElem?_toArray, List.getElem?_cons_succ, List.getElem?_cons_zero, Option.bind_some]
      (refine vm_op ?_); intro r hr; simp only [hat, hbb, go_sem, ↓Nat.reduceBEq, ↓Nat.reduceAdd, ↓Nat.reduceSub, ↓Nat.reduceMul, ↓Nat.reduceEqDiff, ↓Nat.reducePow, ↓Nat.reduceLeDiff, ↓Nat.reduceLT, ↓Int.reduceLE, ↓Int.reduceLT, ↓reduceIte, ↓reduceCtorEq]; subst hr
      (refine vm_op ?_); intro r hr; simp only [hat, hbb, go_sem, ↓Nat.reduceBEq, ↓Nat.reduceAdd, ↓Nat.reduceSub, ↓Nat.reduceMul, ↓Nat.reduceEqDiff, ↓Nat.reducePow, ↓Nat.reduceLeDiff, ↓Nat.reduceLT, ↓Int.reduceLE, ↓Int.reduceLT, ↓reduceIte, ↓reduceCtorEq]; subst hr
      (refine vm_op ?_); intro r hr; simp only [hat, hbb, go_sem, ↓Nat.reduceBEq, ↓Nat.reduceAdd, ↓Nat.reduceSub, ↓Nat.reduceMul, ↓Nat.reduceEqDiff, ↓Nat.reducePow, ↓Nat.reduceLeDiff, ↓Nat.reduceLT, ↓Int.reduceLE, ↓Int.reduceLT, ↓reduceIte, ↓reduceCtorEq]; subst hr
      (refine vm_op ?_); intro r hr; simp only [hat, hbb, go_sem, ↓Nat.reduceBEq, ↓Nat.reduceAdd, ↓Nat.reduceSub, ↓Nat.reduceMul, ↓Nat.reduceEqDiff, ↓Nat.reducePow, ↓Nat.reduceLeDiff, ↓Nat.reduceLT, ↓Int.reduceLE, ↓Int.reduceLT, ↓reduceIte, ↓reduceCtorEq]; subst hr
      (refine vm_op ?_); intro r hr; simp only [hat, hbb, go_sem, ↓Nat.reduceBEq, ↓Nat.reduceAdd, ↓Nat.reduceSub, ↓Nat.reduceMul, ↓Nat.reduceEqDiff, ↓Nat.reducePow, ↓Nat.reduceLeDiff, ↓Nat.reduceLT, ↓Int.reduceLE, ↓Int.reduceLT, ↓reduceIte, ↓reduceCtorEq]; subst hr
      (refine vm_op ?_); intro r hr; simp only [hat, hbb, go_sem, ↓Nat.reduceBEq, ↓Nat.reduceAdd, ↓Nat.reduceSub, ↓Nat.reduceMul, ↓Nat.reduceEqDiff, ↓Nat.reducePow, ↓Nat.reduceLeDiff, ↓Nat.reduceLT, ↓Int.reduceLE, ↓Int.reduceLT, ↓reduceIte, ↓reduceCtorEq]; subst hr
      (refine vm_op ?_); intro r hr; simp only [hat, hbb, go_sem, ↓Nat.reduceBEq, ↓Nat.reduceAdd, ↓Nat.reduceSub, ↓Nat.reduceMul, ↓Nat.reduceEqDiff, ↓Nat.reducePow, ↓Nat.reduceLeDiff, ↓Nat.reduceLT, ↓Int.reduceLE, ↓Int.reduceLT, ↓reduceIte, ↓reduceCtorEq]; subst hr
      (refine vm_op ?_); intro r hr; simp only [go_sem, ↓Nat.reduceBEq, ↓Nat.reduceAdd, ↓Nat.reduceSub, ↓Nat.reduceMul, ↓Nat.reduceEqDiff, ↓Nat.reducePow, ↓Nat.reduceLeDiff, ↓Nat.reduceLT, ↓Int.reduceLE, ↓Int.reduceLT, ↓reduceIte, ↓reduceCtorEq]; subst hr
      refine ⟨by omega, by omega, ?_⟩
      rw [Int.toNat_natCast]
      have hri : r.1[i]? = some (r.1[i]'(by rw [root_len]; exact hi8)) := List.getElem?_eq_getElem _
      (refine vm_op ?_); intro r hr; simp only [hc, hri, Nat.mul_one, AV.upd, go_sem, ↓Nat.reduceBEq, ↓Nat.reduceAdd, ↓Nat.reduceSub, ↓Nat.reduceMul, ↓Nat.reduceEqDiff, ↓Nat.reducePow, ↓Nat.reduceLeDiff, ↓Nat.reduceLT, ↓Int.reduceLE, ↓Int.reduceLT, ↓reduceIte, ↓reduceCtorEq]; subst hr
      exact hQ
      try simp only [blockK, thenK, ↓reduceIte]
      refine tr_region (by rw [hE]; rfl) ?_
      repeat (refine vc_op rfl ?_; simp only [hw, go_sem, ↓Nat.reduceBEq, ↓Nat.reduceAdd, ↓Nat.reduceSub, ↓Nat.reduceMul, ↓Nat.reduceEqDiff, ↓Nat.reducePow, ↓Nat.reduceLeDiff, ↓Nat.reduceLT, ↓Int.reduceLE, ↓Int.reduceLT, ↓reduceIte, ↓reduceCtorEq])
      refine vc_nil ?_
      try simp only [blockK, thenK, ↓reduceIte]
      refine ⟨(rootSet r i (b.toNat : Int), i + 1), ⟨by omega, hnx⟩, by simp only; omega, ?_⟩
      show Wk _ _ (st46 l p (rootSet r i (b.toNat : Int)) (i + 1))
      unfold st46
      refine wk_ren (fun n => n) ?_ ?_ rfl rfl rfl
      · repeat' (first | exact rfl | exact trivial | constructor)
      · repeat' (first | exact rfl | exact trivial | constructor)
    · refine Tr.exit ?_
      try simp only [blockK, thenK, ↓reduceIte]
      have hil : i = 32 := by
        have := of_decide_eq_false h1
        omega
      subst hil
      have hro : r = rootOf (l.drop p) := by
        apply Subtype.ext
        rw [rootOf_val _ (by rw [List.length_drop]; omega), ← hr, List.take_of_length_le (by rw [root_len]; omega)]
      subst hro
      first | refine tr_seq_region (by rw [hE]; rfl) ?_ | (refine Tr.seq ?_; refine tr_seq_region (by rw [hE]; rfl) ?_)
      repeat (refine vc_op rfl ?_; simp only [go_sem, ↓Nat.reduceBEq, ↓Nat.reduceAdd, ↓Nat.reduceSub, ↓Nat.reduceMul, ↓Nat.reduceEqDiff, ↓Nat.reducePow, ↓Nat.reduceLeDiff, ↓Nat.reduceLT, ↓Int.reduceLE, ↓Int.reduceLT, ↓reduceIte, ↓reduceCtorEq])
      refine vc_nil ?_
      refine Tr.ret ?_
      simp only [Try.f46, go_sem, ↓Nat.reduceBEq, ↓Nat.reduceAdd, ↓Nat.reduceSub, ↓Nat.reduceMul, ↓Nat.reduceEqDiff, ↓Nat.reducePow, ↓Nat.reduceLeDiff, ↓Nat.reduceLT, ↓Int.reduceLE, ↓Int.reduceLT, ↓reduceIte, ↓reduceCtorEq]
