/- The document's writers. -/
import Derived.Test.YtpcegpfbmmgbbaaWiQ
set_option linter.unusedSimpArgs false
namespace Go.Proofs.Ytpcegpfbmmgbbaa
open Go Go.Ab

/-- Bytes that are a literal (none), or grow, in an object. -/
def gV (m : Option Nat) (l : List UInt8) : AV := match m with | none => .sl (l.map bav) true | some o => .ms o 1 l.length
def gH (m : Option Nat) (l : List UInt8) : HP := match m with | none => [] | some o => [(o, .row 1 (l.map bav))]
def pwI : Nat → Int
  | 0 => 1
  | k + 1 => IntKind.u64.wrap (pwI k * 256)
theorem pwI_nat : ∀ k, k ≤ 7 → pwI k = ((256 ^ k : Nat) : Int)
  | 0, _ => rfl
  | k + 1, h => by
    have hp : 256 ^ (k + 1) ≤ 256 ^ 7 := Nat.pow_le_pow_right (by decide) h
    rw [pwI, pwI_nat k (by omega), show ((256 ^ k : Nat) : Int) * 256 = ((256 ^ (k + 1) : Nat) : Int) from by rw [Nat.pow_succ, Int.natCast_mul]; rfl]
    exact wrap_u64 _ (by omega)
theorem pwI_ne (k : Nat) (h : k ≤ 7) : (pwI k = 0) = False := eq_false (by
  rw [pwI_nat k h]
  have : 0 < 256 ^ k := Nat.pow_pos (by decide)
  omega)
theorem ref_byte (n : Int) (h0 : 0 ≤ n) (h1 : n < 2 ^ 64) (i : Nat) (hi : i < 8) : byteOf ((IntKind.u64.wrap (n.tdiv (pwI (7 - i)))).tmod 256) = byteAt n (7 - (i : Int)) := by
  obtain ⟨m, rfl⟩ := Int.eq_ofNat_of_zero_le h0
  have hm : m < 2 ^ 64 := by omega
  have e : (7 - (i : Int)) = ((7 - i : Nat) : Int) := by omega
  have hlt : m / 256 ^ (7 - i) < 2 ^ 64 := Nat.lt_of_le_of_lt (Nat.div_le_self _ _) hm
  rw [e, byteAt_nat m (7 - i) (by omega), pwI_nat (7 - i) (by omega), Int.tdiv_eq_ediv_of_nonneg (Int.natCast_nonneg _), ← Int.natCast_ediv, wrap_u64 _ hlt, Int.tmod_eq_emod_of_nonneg (Int.natCast_nonneg _)]
  rw [show ((m / 256 ^ (7 - i) : Nat) : Int) % 256 = ((m / 256 ^ (7 - i) % 256 : Nat) : Int) from by rw [Int.natCast_emod (m / 256 ^ (7 - i)) 256]; rfl, byteOf_nat, Nat.mod_mod]

def st42 (n : Int) (L : List UInt8) (m : Option Nat) (i : Nat) : S where
  fr := [(5, .int .i64 i), (0, gV m (L ++ be n i)), (1, .int .u64 n)]
  hp := gH m (L ++ be n i)
  nx := 2
def st42b (n : Int) (B : List UInt8) (m : Option Nat) (i k : Nat) : S where
  fr := [(7, .int .i64 (i + k : Nat)), (6, .int .u64 (pwI k)), (5, .int .i64 i), (0, gV m B), (1, .int .u64 n)]
  hp := gH m B
  nx := 2

set_option maxHeartbeats 4000000 in
set_option maxRecDepth 4000 in
theorem rnumber_own (L : List UInt8) (n : Int) (hn : 0 ≤ n ∧ n < 2 ^ 64) (hL : L.length ≤ 1000) : Eff Try.prog 42 [.sl (L.map bav) true, .int .u64 n] 0 [] (.ms 0 1 (L.length + 8)) [(0, .row 1 ((L ++ be n 8).map bav))] := by
  refine eff_of_tr Try.func42 rfl (Nat.le_of_ble_eq_true rfl) (by first | rfl | (simp only [AV.idsB, AV.idsBL, Bool.and_true, Bool.true_and] <;> rfl)) fun E hE hP => ?_
  first | refine tr_seq_region (by rw [hE]; rfl) ?_ | (refine Tr.seq ?_; refine tr_seq_region (by rw [hE]; rfl) ?_)
  repeat (refine vc_op rfl ?_; simp only [go_sem, ↓Nat.reduceBEq, ↓Nat.reduceAdd, ↓Nat.reduceSub, ↓Nat.reduceMul, ↓Nat.reduceEqDiff, ↓Nat.reducePow, ↓Nat.reduceLeDiff, ↓Nat.reduceLT, ↓Int.reduceLE, ↓Int.reduceLT, ↓reduceIte, ↓reduceCtorEq])
  refine vc_nil ?_
  first | refine tr_seq_region (by rw [hE]; rfl) ?_ | (refine Tr.seq ?_; refine tr_seq_region (by rw [hE]; rfl) ?_)
  repeat (refine vc_op rfl ?_; simp only [go_sem, ↓Nat.reduceBEq, ↓Nat.reduceAdd, ↓Nat.reduceSub, ↓Nat.reduceMul, ↓Nat.reduceEqDiff, ↓Nat.reducePow, ↓Nat.reduceLeDiff, ↓Nat.reduceLT, ↓Int.reduceLE, ↓Int.reduceLT, ↓reduceIte, ↓reduceCtorEq])
  refine vc_nil ?_
  first | refine Tr.block ?_ | (refine Tr.seq ?_; refine Tr.block ?_)
  refine Tr.loop (fun p : Option Nat × Nat => st42 n L p.1 p.2) (fun p => p.2 ≤ 8 ∧ (p.1 = none ∧ p.2 = 0 ∨ p.1 = some 0)) (fun p => 8 - p.2) (none, 0) ⟨Nat.zero_le _, .inl ⟨rfl, rfl⟩⟩ ?_ ?_
  · have e : L ++ be n 0 = L := by simp [be]
    show Wk E _ (st42 n L none 0)
    unfold st42
    rw [e]
    unfold gV gH
    refine wk_ren (fun n => n) ?_ ?_ rfl rfl rfl
    · repeat' (first | exact rfl | exact trivial | constructor)
    · repeat' (first | exact rfl | exact trivial | constructor)
  · rintro ⟨m, i⟩ ⟨hi, hm⟩
    simp only at hi hm
    show Tr _ _ _ _ (st42 n L m i) _
    unfold st42
    first | refine tr_seq_region (by rw [hE]; rfl) ?_ | (refine Tr.seq ?_; refine tr_seq_region (by rw [hE]; rfl) ?_)
    repeat (refine vc_op rfl ?_; simp only [go_sem, ↓Nat.reduceBEq, ↓Nat.reduceAdd, ↓Nat.reduceSub, ↓Nat.reduceMul, ↓Nat.reduceEqDiff, ↓Nat.reducePow, ↓Nat.reduceLeDiff, ↓Nat.reduceLT, ↓Int.reduceLE, ↓Int.reduceLT, ↓reduceIte, ↓reduceCtorEq])
    refine vc_nil ?_
    first | refine Tr.cond rfl (fun h1 => ?_) (fun h1 => ?_) | refine Tr.seq (Tr.cond rfl (fun h1 => ?_) (fun h1 => ?_))
    · rcases hm with ⟨rfl, _⟩ | rfl
      · have hi8 : i < 8 := by have := of_decide_eq_true h1; omega
        have hnx := be_next n i
        have hrb := ref_byte n hn.1 hn.2 i hi8
        have hw := wrap_next (n := i) (by omega)
        have hlen : (L ++ be n i).length ≤ 2000 := by rw [List.length_append, be_len]; omega
        generalize hB : L ++ be n i = B at hlen
        refine Tr.skip ?_
        try simp only [blockK, thenK, ↓reduceIte]
        first | refine Tr.block ?_ | (refine Tr.seq ?_; refine Tr.block ?_)
        first | refine tr_seq_region (by rw [hE]; rfl) ?_ | (refine Tr.seq ?_; refine tr_seq_region (by rw [hE]; rfl) ?_)
        repeat (refine vc_op rfl ?_; simp only [go_sem, ↓Nat.reduceBEq, ↓Nat.reduceAdd, ↓Nat.reduceSub, ↓Nat.reduceMul, ↓Nat.reduceEqDiff, ↓Nat.reducePow, ↓Nat.reduceLeDiff, ↓Nat.reduceLT, ↓Int.reduceLE, ↓Int.reduceLT, ↓reduceIte, ↓reduceCtorEq])
        refine vc_nil ?_
        first | refine tr_seq_region (by rw [hE]; rfl) ?_ | (refine Tr.seq ?_; refine tr_seq_region (by rw [hE]; rfl) ?_)
        repeat (refine vc_op rfl ?_; simp only [go_sem, ↓Nat.reduceBEq, ↓Nat.reduceAdd, ↓Nat.reduceSub, ↓Nat.reduceMul, ↓Nat.reduceEqDiff, ↓Nat.reducePow, ↓Nat.reduceLeDiff, ↓Nat.reduceLT, ↓Int.reduceLE, ↓Int.reduceLT, ↓reduceIte, ↓reduceCtorEq])
        refine vc_nil ?_
        first | refine Tr.block ?_ | (refine Tr.seq ?_; refine Tr.block ?_)
        refine Tr.loop (fun k => st42b n B none i k) (fun k => i + k ≤ 7) (fun k => 7 - k) 0 (by omega) ?_ ?_
        · unfold st42b
          unfold gV gH
          refine wk_ren (fun n => n) ?_ ?_ rfl rfl rfl
          · repeat' (first | exact rfl | exact trivial | constructor)
          · repeat' (first | exact rfl | exact trivial | constructor)
        · intro k hk
          show Tr _ _ _ _ (st42b n B none i k) _
          unfold st42b
          first | refine tr_seq_region (by rw [hE]; rfl) ?_ | (refine Tr.seq ?_; refine tr_seq_region (by rw [hE]; rfl) ?_)
          repeat (refine vc_op rfl ?_; simp only [go_sem, ↓Nat.reduceBEq, ↓Nat.reduceAdd, ↓Nat.reduceSub, ↓Nat.reduceMul, ↓Nat.reduceEqDiff, ↓Nat.reducePow, ↓Nat.reduceLeDiff, ↓Nat.reduceLT, ↓Int.reduceLE, ↓Int.reduceLT, ↓reduceIte, ↓reduceCtorEq])
          refine vc_nil ?_
          first | refine Tr.cond rfl (fun h2 => ?_) (fun h2 => ?_) | refine Tr.seq (Tr.cond rfl (fun h2 => ?_) (fun h2 => ?_))
          · refine Tr.skip ?_
            try simp only [blockK, thenK, ↓reduceIte]
            have hk7 : i + k < 7 := by have := of_decide_eq_true h2; omega
            have hw2 := wrap_next (n := i + k) (by omega)
            first | refine Tr.block ?_ | (refine Tr.seq ?_; refine Tr.block ?_)
            refine tr_region (by rw [hE]; rfl) ?_
            repeat (refine vc_op rfl ?_; simp only [go_sem, ↓Nat.reduceBEq, ↓Nat.reduceAdd, ↓Nat.reduceSub, ↓Nat.reduceMul, ↓Nat.reduceEqDiff, ↓Nat.reducePow, ↓Nat.reduceLeDiff, ↓Nat.reduceLT, ↓Int.reduceLE, ↓Int.reduceLT, ↓reduceIte, ↓reduceCtorEq])
            refine vc_nil ?_
            try simp only [blockK, thenK, ↓reduceIte]
            refine tr_region (by rw [hE]; rfl) ?_
            repeat (refine vc_op rfl ?_; simp only [hw2, go_sem, ↓Nat.reduceBEq, ↓Nat.reduceAdd, ↓Nat.reduceSub, ↓Nat.reduceMul, ↓Nat.reduceEqDiff, ↓Nat.reducePow, ↓Nat.reduceLeDiff, ↓Nat.reduceLT, ↓Int.reduceLE, ↓Int.reduceLT, ↓reduceIte, ↓reduceCtorEq])
            refine vc_nil ?_
            try simp only [blockK, thenK, ↓reduceIte]
            refine ⟨k + 1, by omega, by omega, ?_⟩
            show Wk _ _ (st42b n B none i (k + 1))
            unfold st42b
            unfold gV gH
            refine wk_ren (fun n => n) ?_ ?_ rfl rfl rfl
            · repeat' (first | exact rfl | exact trivial | constructor)
            · repeat' (first | exact rfl | exact trivial | constructor)
          · refine Tr.exit ?_
            try simp only [blockK, thenK, ↓reduceIte]
            have hk7 : k = 7 - i := by
              have := of_decide_eq_false h2
              omega
            subst hk7
            have q1 : gV none B = .sl (B.map bav) true := rfl
            have q2 : gH none B = [] := rfl
            have hpw := pwI_ne (7 - i) (by omega)
            have h256 : ((256 : Int) = 0) = False := eq_false (by decide)
            generalize hx : byteOf ((IntKind.u64.wrap (n.tdiv (pwI (7 - i)))).tmod 256) = x
            have hx' : byteAt n (7 - (i : Int)) = x := by rw [← hrb, hx]
            rw [q1, q2]
            apply tr_ml (by rw [hE]; rfl)
            intro Q hQ
            simp only [List.toList_toArray, List.map_cons, List.map_nil, mo, guardSlot, Option.map_some, Option.map_none, List.getElem?_toArray, List.getElem?_cons_succ, List.getElem?_cons_zero, Option.bind_some]
            (refine vm_op ?_); intro r hr; simp only [hpw, not_false_eq_true, go_sem, ↓Nat.reduceBEq, ↓Nat.reduceAdd, ↓Nat.reduceSub, ↓Nat.reduceMul, ↓Nat.reduceEqDiff, ↓Nat.reducePow, ↓Nat.reduceLeDiff, ↓Nat.reduceLT, ↓Int.reduceLE, ↓Int.reduceLT, ↓reduceIte, ↓reduceCtorEq]; subst hr
            (refine vm_op ?_); intro r hr; simp only [hpw, not_false_eq_true, go_sem, ↓Nat.reduceBEq, ↓Nat.reduceAdd, ↓Nat.reduceSub, ↓Nat.reduceMul, ↓Nat.reduceEqDiff, ↓Nat.reducePow, ↓Nat.reduceLeDiff, ↓Nat.reduceLT, ↓Int.reduceLE, ↓Int.reduceLT, ↓reduceIte, ↓reduceCtorEq]; subst hr
            (refine vm_op ?_); intro r hr; simp only [hpw, not_false_eq_true, go_sem, ↓Nat.reduceBEq, ↓Nat.reduceAdd, ↓Nat.reduceSub, ↓Nat.reduceMul, ↓Nat.reduceEqDiff, ↓Nat.reducePow, ↓Nat.reduceLeDiff, ↓Nat.reduceLT, ↓Int.reduceLE, ↓Int.reduceLT, ↓reduceIte, ↓reduceCtorEq]; subst hr
            (refine vm_op ?_); intro r hr; simp only [hpw, not_false_eq_true, go_sem, ↓Nat.reduceBEq, ↓Nat.reduceAdd, ↓Nat.reduceSub, ↓Nat.reduceMul, ↓Nat.reduceEqDiff, ↓Nat.reducePow, ↓Nat.reduceLeDiff, ↓Nat.reduceLT, ↓Int.reduceLE, ↓Int.reduceLT, ↓reduceIte, ↓reduceCtorEq]; subst hr
            (refine vm_op ?_); intro r hr; simp only [h256, not_false_eq_true, bav_byteOf, hx, go_sem, ↓Nat.reduceBEq, ↓Nat.reduceAdd, ↓Nat.reduceSub, ↓Nat.reduceMul, ↓Nat.reduceEqDiff, ↓Nat.reducePow, ↓Nat.reduceLeDiff, ↓Nat.reduceLT, ↓Int.reduceLE, ↓Int.reduceLT, ↓reduceIte, ↓reduceCtorEq]; subst hr
            (refine vm_op ?_); intro r hr; simp only [h256, not_false_eq_true, bav_byteOf, hx, go_sem, ↓Nat.reduceBEq, ↓Nat.reduceAdd, ↓Nat.reduceSub, ↓Nat.reduceMul, ↓Nat.reduceEqDiff, ↓Nat.reducePow, ↓Nat.reduceLeDiff, ↓Nat.reduceLT, ↓Int.reduceLE, ↓Int.reduceLT, ↓reduceIte, ↓reduceCtorEq]; subst hr
            (refine vm_op ?_); intro r hr; simp only [h256, not_false_eq_true, bav_byteOf, hx, go_sem, ↓Nat.reduceBEq, ↓Nat.reduceAdd, ↓Nat.reduceSub, ↓Nat.reduceMul, ↓Nat.reduceEqDiff, ↓Nat.reducePow, ↓Nat.reduceLeDiff, ↓Nat.reduceLT, ↓Int.reduceLE, ↓Int.reduceLT, ↓reduceIte, ↓reduceCtorEq]; subst hr
            (refine vm_op ?_); intro r hr; simp only [List.filter_cons, List.filter_nil, go_sem, ↓Nat.reduceBEq, ↓Nat.reduceAdd, ↓Nat.reduceSub, ↓Nat.reduceMul, ↓Nat.reduceEqDiff, ↓Nat.reducePow, ↓Nat.reduceLeDiff, ↓Nat.reduceLT, ↓Int.reduceLE, ↓Int.reduceLT, ↓reduceIte, ↓reduceCtorEq]; subst hr
            refine ⟨lens_bav B, by omega, by omega, .inr (by simp), ?_⟩
            rw [show List.map bav B ++ [bav x] = (B ++ [x]).map bav from (List.map_append (f := bav) (l₁ := B) (l₂ := [x])).symm]
            (refine vm_op ?_); intro r hr; simp only [go_sem, ↓Nat.reduceBEq, ↓Nat.reduceAdd, ↓Nat.reduceSub, ↓Nat.reduceMul, ↓Nat.reduceEqDiff, ↓Nat.reducePow, ↓Nat.reduceLeDiff, ↓Nat.reduceLT, ↓Int.reduceLE, ↓Int.reduceLT, ↓reduceIte, ↓reduceCtorEq]; subst hr
            exact hQ
            try simp only [blockK, thenK, ↓reduceIte]
            refine tr_region (by rw [hE]; rfl) ?_
            repeat (refine vc_op rfl ?_; simp only [hw, go_sem, ↓Nat.reduceBEq, ↓Nat.reduceAdd, ↓Nat.reduceSub, ↓Nat.reduceMul, ↓Nat.reduceEqDiff, ↓Nat.reducePow, ↓Nat.reduceLeDiff, ↓Nat.reduceLT, ↓Int.reduceLE, ↓Int.reduceLT, ↓reduceIte, ↓reduceCtorEq])
            refine vc_nil ?_
            try simp only [blockK, thenK, ↓reduceIte]
            refine ⟨(some 0, i + 1), ⟨by omega, .inr rfl⟩, by simp only; omega, ?_⟩
            show Wk _ _ (st42 n L (some 0) (i + 1))
            unfold st42
            rw [hnx, ← List.append_assoc, hB, hx']
            have e : gV (some 0) (B ++ [x]) = .ms 0 1 (B.length + 1) := by
              unfold gV
              rw [List.length_append]
              rfl
            rw [e]
            unfold gH
            refine wk_ren (fun | 0 => 146 | n => n) ?_ ?_ rfl rfl rfl
            · repeat' (first | exact rfl | exact trivial | constructor)
            · repeat' (first | exact rfl | exact trivial | constructor)
      · have hi8 : i < 8 := by have := of_decide_eq_true h1; omega
        have hnx := be_next n i
        have hrb := ref_byte n hn.1 hn.2 i hi8
        have hw := wrap_next (n := i) (by omega)
        have hlen : (L ++ be n i).length ≤ 2000 := by rw [List.length_append, be_len]; omega
        generalize hB : L ++ be n i = B at hlen
        refine Tr.skip ?_
        try simp only [blockK, thenK, ↓reduceIte]
        first | refine Tr.block ?_ | (refine Tr.seq ?_; refine Tr.block ?_)
        first | refine tr_seq_region (by rw [hE]; rfl) ?_ | (refine Tr.seq ?_; refine tr_seq_region (by rw [hE]; rfl) ?_)
        repeat (refine vc_op rfl ?_; simp only [go_sem, ↓Nat.reduceBEq, ↓Nat.reduceAdd, ↓Nat.reduceSub, ↓Nat.reduceMul, ↓Nat.reduceEqDiff, ↓Nat.reducePow, ↓Nat.reduceLeDiff, ↓Nat.reduceLT, ↓Int.reduceLE, ↓Int.reduceLT, ↓reduceIte, ↓reduceCtorEq])
        refine vc_nil ?_
        first | refine tr_seq_region (by rw [hE]; rfl) ?_ | (refine Tr.seq ?_; refine tr_seq_region (by rw [hE]; rfl) ?_)
        repeat (refine vc_op rfl ?_; simp only [go_sem, ↓Nat.reduceBEq, ↓Nat.reduceAdd, ↓Nat.reduceSub, ↓Nat.reduceMul, ↓Nat.reduceEqDiff, ↓Nat.reducePow, ↓Nat.reduceLeDiff, ↓Nat.reduceLT, ↓Int.reduceLE, ↓Int.reduceLT, ↓reduceIte, ↓reduceCtorEq])
        refine vc_nil ?_
        first | refine Tr.block ?_ | (refine Tr.seq ?_; refine Tr.block ?_)
        refine Tr.loop (fun k => st42b n B (some 0) i k) (fun k => i + k ≤ 7) (fun k => 7 - k) 0 (by omega) ?_ ?_
        · unfold st42b
          unfold gV gH
          refine wk_ren (fun n => n) ?_ ?_ rfl rfl rfl
          · repeat' (first | exact rfl | exact trivial | constructor)
          · repeat' (first | exact rfl | exact trivial | constructor)
        · intro k hk
          show Tr _ _ _ _ (st42b n B (some 0) i k) _
          unfold st42b
          first | refine tr_seq_region (by rw [hE]; rfl) ?_ | (refine Tr.seq ?_; refine tr_seq_region (by rw [hE]; rfl) ?_)
          repeat (refine vc_op rfl ?_; simp only [go_sem, ↓Nat.reduceBEq, ↓Nat.reduceAdd, ↓Nat.reduceSub, ↓Nat.reduceMul, ↓Nat.reduceEqDiff, ↓Nat.reducePow, ↓Nat.reduceLeDiff, ↓Nat.reduceLT, ↓Int.reduceLE, ↓Int.reduceLT, ↓reduceIte, ↓reduceCtorEq])
          refine vc_nil ?_
          first | refine Tr.cond rfl (fun h2 => ?_) (fun h2 => ?_) | refine Tr.seq (Tr.cond rfl (fun h2 => ?_) (fun h2 => ?_))
          · refine Tr.skip ?_
            try simp only [blockK, thenK, ↓reduceIte]
            have hk7 : i + k < 7 := by have := of_decide_eq_true h2; omega
            have hw2 := wrap_next (n := i + k) (by omega)
            first | refine Tr.block ?_ | (refine Tr.seq ?_; refine Tr.block ?_)
            refine tr_region (by rw [hE]; rfl) ?_
            repeat (refine vc_op rfl ?_; simp only [go_sem, ↓Nat.reduceBEq, ↓Nat.reduceAdd, ↓Nat.reduceSub, ↓Nat.reduceMul, ↓Nat.reduceEqDiff, ↓Nat.reducePow, ↓Nat.reduceLeDiff, ↓Nat.reduceLT, ↓Int.reduceLE, ↓Int.reduceLT, ↓reduceIte, ↓reduceCtorEq])
            refine vc_nil ?_
            try simp only [blockK, thenK, ↓reduceIte]
            refine tr_region (by rw [hE]; rfl) ?_
            repeat (refine vc_op rfl ?_; simp only [hw2, go_sem, ↓Nat.reduceBEq, ↓Nat.reduceAdd, ↓Nat.reduceSub, ↓Nat.reduceMul, ↓Nat.reduceEqDiff, ↓Nat.reducePow, ↓Nat.reduceLeDiff, ↓Nat.reduceLT, ↓Int.reduceLE, ↓Int.reduceLT, ↓reduceIte, ↓reduceCtorEq])
            refine vc_nil ?_
            try simp only [blockK, thenK, ↓reduceIte]
            refine ⟨k + 1, by omega, by omega, ?_⟩
            show Wk _ _ (st42b n B (some 0) i (k + 1))
            unfold st42b
            unfold gV gH
            refine wk_ren (fun n => n) ?_ ?_ rfl rfl rfl
            · repeat' (first | exact rfl | exact trivial | constructor)
            · repeat' (first | exact rfl | exact trivial | constructor)
          · refine Tr.exit ?_
            try simp only [blockK, thenK, ↓reduceIte]
            have hk7 : k = 7 - i := by
              have := of_decide_eq_false h2
              omega
            subst hk7
            have q1 : gV (some 0) B = .ms 0 1 B.length := rfl
            have q2 : gH (some 0) B = [(0, .row 1 (B.map bav))] := rfl
            have hpw := pwI_ne (7 - i) (by omega)
            have h256 : ((256 : Int) = 0) = False := eq_false (by decide)
            generalize hx : byteOf ((IntKind.u64.wrap (n.tdiv (pwI (7 - i)))).tmod 256) = x
            have hx' : byteAt n (7 - (i : Int)) = x := by rw [← hrb, hx]
            rw [q1, q2]
            apply tr_ml (by rw [hE]; rfl)
            intro Q hQ
            simp only [List.toList_toArray, List.map_cons, List.map_nil, mo, guardSlot, Option.map_some, Option.map_none, List.getElem?_toArray, List.getElem?_cons_succ, List.getElem?_cons_zero, Option.bind_some]
            (refine vm_op ?_); intro r hr; simp only [hpw, not_false_eq_true, go_sem, ↓Nat.reduceBEq, ↓Nat.reduceAdd, ↓Nat.reduceSub, ↓Nat.reduceMul, ↓Nat.reduceEqDiff, ↓Nat.reducePow, ↓Nat.reduceLeDiff, ↓Nat.reduceLT, ↓Int.reduceLE, ↓Int.reduceLT, ↓reduceIte, ↓reduceCtorEq]; subst hr
            (refine vm_op ?_); intro r hr; simp only [hpw, not_false_eq_true, go_sem, ↓Nat.reduceBEq, ↓Nat.reduceAdd, ↓Nat.reduceSub, ↓Nat.reduceMul, ↓Nat.reduceEqDiff, ↓Nat.reducePow, ↓Nat.reduceLeDiff, ↓Nat.reduceLT, ↓Int.reduceLE, ↓Int.reduceLT, ↓reduceIte, ↓reduceCtorEq]; subst hr
            (refine vm_op ?_); intro r hr; simp only [hpw, not_false_eq_true, go_sem, ↓Nat.reduceBEq, ↓Nat.reduceAdd, ↓Nat.reduceSub, ↓Nat.reduceMul, ↓Nat.reduceEqDiff, ↓Nat.reducePow, ↓Nat.reduceLeDiff, ↓Nat.reduceLT, ↓Int.reduceLE, ↓Int.reduceLT, ↓reduceIte, ↓reduceCtorEq]; subst hr
            (refine vm_op ?_); intro r hr; simp only [hpw, not_false_eq_true, go_sem, ↓Nat.reduceBEq, ↓Nat.reduceAdd, ↓Nat.reduceSub, ↓Nat.reduceMul, ↓Nat.reduceEqDiff, ↓Nat.reducePow, ↓Nat.reduceLeDiff, ↓Nat.reduceLT, ↓Int.reduceLE, ↓Int.reduceLT, ↓reduceIte, ↓reduceCtorEq]; subst hr
            (refine vm_op ?_); intro r hr; simp only [h256, not_false_eq_true, bav_byteOf, hx, go_sem, ↓Nat.reduceBEq, ↓Nat.reduceAdd, ↓Nat.reduceSub, ↓Nat.reduceMul, ↓Nat.reduceEqDiff, ↓Nat.reducePow, ↓Nat.reduceLeDiff, ↓Nat.reduceLT, ↓Int.reduceLE, ↓Int.reduceLT, ↓reduceIte, ↓reduceCtorEq]; subst hr
            (refine vm_op ?_); intro r hr; simp only [h256, not_false_eq_true, bav_byteOf, hx, go_sem, ↓Nat.reduceBEq, ↓Nat.reduceAdd, ↓Nat.reduceSub, ↓Nat.reduceMul, ↓Nat.reduceEqDiff, ↓Nat.reducePow, ↓Nat.reduceLeDiff, ↓Nat.reduceLT, ↓Int.reduceLE, ↓Int.reduceLT, ↓reduceIte, ↓reduceCtorEq]; subst hr
            (refine vm_op ?_); intro r hr; simp only [h256, not_false_eq_true, bav_byteOf, hx, go_sem, ↓Nat.reduceBEq, ↓Nat.reduceAdd, ↓Nat.reduceSub, ↓Nat.reduceMul, ↓Nat.reduceEqDiff, ↓Nat.reducePow, ↓Nat.reduceLeDiff, ↓Nat.reduceLT, ↓Int.reduceLE, ↓Int.reduceLT, ↓reduceIte, ↓reduceCtorEq]; subst hr
            (refine vm_op ?_); intro r hr; simp only [List.filter_cons, List.filter_nil, go_sem, ↓Nat.reduceBEq, ↓Nat.reduceAdd, ↓Nat.reduceSub, ↓Nat.reduceMul, ↓Nat.reduceEqDiff, ↓Nat.reducePow, ↓Nat.reduceLeDiff, ↓Nat.reduceLT, ↓Int.reduceLE, ↓Int.reduceLT, ↓reduceIte, ↓reduceCtorEq]; subst hr
            refine ⟨by omega, by omega, ?_⟩
            rw [show List.map bav B ++ [bav x] = (B ++ [x]).map bav from (List.map_append (f := bav) (l₁ := B) (l₂ := [x])).symm]
            (refine vm_op ?_); intro r hr; simp only [go_sem, ↓Nat.reduceBEq, ↓Nat.reduceAdd, ↓Nat.reduceSub, ↓Nat.reduceMul, ↓Nat.reduceEqDiff, ↓Nat.reducePow, ↓Nat.reduceLeDiff, ↓Nat.reduceLT, ↓Int.reduceLE, ↓Int.reduceLT, ↓reduceIte, ↓reduceCtorEq]; subst hr
            exact hQ
            try simp only [blockK, thenK, ↓reduceIte]
            refine tr_region (by rw [hE]; rfl) ?_
            repeat (refine vc_op rfl ?_; simp only [hw, go_sem, ↓Nat.reduceBEq, ↓Nat.reduceAdd, ↓Nat.reduceSub, ↓Nat.reduceMul, ↓Nat.reduceEqDiff, ↓Nat.reducePow, ↓Nat.reduceLeDiff, ↓Nat.reduceLT, ↓Int.reduceLE, ↓Int.reduceLT, ↓reduceIte, ↓reduceCtorEq])
            refine vc_nil ?_
            try simp only [blockK, thenK, ↓reduceIte]
            refine ⟨(some 0, i + 1), ⟨by omega, .inr rfl⟩, by simp only; omega, ?_⟩
            show Wk _ _ (st42 n L (some 0) (i + 1))
            unfold st42
            rw [hnx, ← List.append_assoc, hB, hx']
            have e : gV (some 0) (B ++ [x]) = .ms 0 1 (B.length + 1) := by
              unfold gV
              rw [List.length_append]
              rfl
            rw [e]
            unfold gH
            refine wk_ren (fun | 0 => 146 | n => n) ?_ ?_ rfl rfl rfl
            · repeat' (first | exact rfl | exact trivial | constructor)
            · repeat' (first | exact rfl | exact trivial | constructor)
    · refine Tr.exit ?_
      try simp only [blockK, thenK, ↓reduceIte]
      have hil : i = 8 := by
        have := of_decide_eq_false h1
        omega
      have hmk : m = some 0 := by
        rcases hm with ⟨_, h⟩ | h
        · omega
        · exact h
      subst hil
      subst hmk
      have hl : (L ++ be n 8).length = L.length + 8 := by rw [List.length_append, be_len]
      rw [show gV (some 0) (L ++ be n 8) = .ms 0 1 (L ++ be n 8).length from rfl, show gH (some 0) (L ++ be n 8) = [(0, .row 1 ((L ++ be n 8).map bav))] from rfl, hl]
      first | refine tr_seq_region (by rw [hE]; rfl) ?_ | (refine Tr.seq ?_; refine tr_seq_region (by rw [hE]; rfl) ?_)
      repeat (refine vc_op rfl ?_; simp only [go_sem, ↓Nat.reduceBEq, ↓Nat.reduceAdd, ↓Nat.reduceSub, ↓Nat.reduceMul, ↓Nat.reduceEqDiff, ↓Nat.reducePow, ↓Nat.reduceLeDiff, ↓Nat.reduceLT, ↓Int.reduceLE, ↓Int.reduceLT, ↓reduceIte, ↓reduceCtorEq])
      refine vc_nil ?_
      refine Tr.ret ?_
      simp only [Try.f42, go_sem, ↓Nat.reduceBEq, ↓Nat.reduceAdd, ↓Nat.reduceSub, ↓Nat.reduceMul, ↓Nat.reduceEqDiff, ↓Nat.reducePow, ↓Nat.reduceLeDiff, ↓Nat.reduceLT, ↓Int.reduceLE, ↓Int.reduceLT, ↓reduceIte, ↓reduceCtorEq]
      exact ⟨fun n => n, rfl, ⟨⟨rfl, rfl, rfl⟩, trivial⟩, rfl, fun _ _ => rfl⟩

set_option maxHeartbeats 4000000 in
set_option maxRecDepth 4000 in
theorem rnumber_eff (L : List UInt8) (n : Int) (hn : 0 ≤ n ∧ n < 2 ^ 64) (hL : L.length ≤ 1000) : Eff Try.prog 42 [.ms 0 1 L.length, .int .u64 n] 1 [(0, .row 1 (L.map bav))] (.ms 1 1 (L.length + 8)) [(1, .row 1 ((L ++ be n 8).map bav))] := by
  refine eff_of_tr Try.func42 rfl (Nat.le_of_ble_eq_true rfl) (by first | rfl | (simp only [AV.idsB, AV.idsBL, Bool.and_true, Bool.true_and] <;> rfl)) fun E hE hP => ?_
  first | refine tr_seq_region (by rw [hE]; rfl) ?_ | (refine Tr.seq ?_; refine tr_seq_region (by rw [hE]; rfl) ?_)
  repeat (refine vc_op rfl ?_; simp only [go_sem, ↓Nat.reduceBEq, ↓Nat.reduceAdd, ↓Nat.reduceSub, ↓Nat.reduceMul, ↓Nat.reduceEqDiff, ↓Nat.reducePow, ↓Nat.reduceLeDiff, ↓Nat.reduceLT, ↓Int.reduceLE, ↓Int.reduceLT, ↓reduceIte, ↓reduceCtorEq])
  refine vc_nil ?_
  first | refine tr_seq_region (by rw [hE]; rfl) ?_ | (refine Tr.seq ?_; refine tr_seq_region (by rw [hE]; rfl) ?_)
  repeat (refine vc_op rfl ?_; simp only [go_sem, ↓Nat.reduceBEq, ↓Nat.reduceAdd, ↓Nat.reduceSub, ↓Nat.reduceMul, ↓Nat.reduceEqDiff, ↓Nat.reducePow, ↓Nat.reduceLeDiff, ↓Nat.reduceLT, ↓Int.reduceLE, ↓Int.reduceLT, ↓reduceIte, ↓reduceCtorEq])
  refine vc_nil ?_
  first | refine Tr.block ?_ | (refine Tr.seq ?_; refine Tr.block ?_)
  refine Tr.loop (fun p : Option Nat × Nat => st42 n L p.1 p.2) (fun p => p.2 ≤ 8 ∧ (p.1 = (some 0) ∧ p.2 = 0 ∨ p.1 = some 1)) (fun p => 8 - p.2) ((some 0), 0) ⟨Nat.zero_le _, .inl ⟨rfl, rfl⟩⟩ ?_ ?_
  · have e : L ++ be n 0 = L := by simp [be]
    show Wk E _ (st42 n L (some 0) 0)
    unfold st42
    rw [e]
    unfold gV gH
    refine wk_ren (fun n => n) ?_ ?_ rfl rfl rfl
    · repeat' (first | exact rfl | exact trivial | constructor)
    · repeat' (first | exact rfl | exact trivial | constructor)
  · rintro ⟨m, i⟩ ⟨hi, hm⟩
    simp only at hi hm
    show Tr _ _ _ _ (st42 n L m i) _
    unfold st42
    first | refine tr_seq_region (by rw [hE]; rfl) ?_ | (refine Tr.seq ?_; refine tr_seq_region (by rw [hE]; rfl) ?_)
    repeat (refine vc_op rfl ?_; simp only [go_sem, ↓Nat.reduceBEq, ↓Nat.reduceAdd, ↓Nat.reduceSub, ↓Nat.reduceMul, ↓Nat.reduceEqDiff, ↓Nat.reducePow, ↓Nat.reduceLeDiff, ↓Nat.reduceLT, ↓Int.reduceLE, ↓Int.reduceLT, ↓reduceIte, ↓reduceCtorEq])
    refine vc_nil ?_
    first | refine Tr.cond rfl (fun h1 => ?_) (fun h1 => ?_) | refine Tr.seq (Tr.cond rfl (fun h1 => ?_) (fun h1 => ?_))
    · rcases hm with ⟨rfl, _⟩ | rfl
      · have hi8 : i < 8 := by have := of_decide_eq_true h1; omega
        have hnx := be_next n i
        have hrb := ref_byte n hn.1 hn.2 i hi8
        have hw := wrap_next (n := i) (by omega)
        have hlen : (L ++ be n i).length ≤ 2000 := by rw [List.length_append, be_len]; omega
        generalize hB : L ++ be n i = B at hlen
        refine Tr.skip ?_
        try simp only [blockK, thenK, ↓reduceIte]
        first | refine Tr.block ?_ | (refine Tr.seq ?_; refine Tr.block ?_)
        first | refine tr_seq_region (by rw [hE]; rfl) ?_ | (refine Tr.seq ?_; refine tr_seq_region (by rw [hE]; rfl) ?_)
        repeat (refine vc_op rfl ?_; simp only [go_sem, ↓Nat.reduceBEq, ↓Nat.reduceAdd, ↓Nat.reduceSub, ↓Nat.reduceMul, ↓Nat.reduceEqDiff, ↓Nat.reducePow, ↓Nat.reduceLeDiff, ↓Nat.reduceLT, ↓Int.reduceLE, ↓Int.reduceLT, ↓reduceIte, ↓reduceCtorEq])
        refine vc_nil ?_
        first | refine tr_seq_region (by rw [hE]; rfl) ?_ | (refine Tr.seq ?_; refine tr_seq_region (by rw [hE]; rfl) ?_)
        repeat (refine vc_op rfl ?_; simp only [go_sem, ↓Nat.reduceBEq, ↓Nat.reduceAdd, ↓Nat.reduceSub, ↓Nat.reduceMul, ↓Nat.reduceEqDiff, ↓Nat.reducePow, ↓Nat.reduceLeDiff, ↓Nat.reduceLT, ↓Int.reduceLE, ↓Int.reduceLT, ↓reduceIte, ↓reduceCtorEq])
        refine vc_nil ?_
        first | refine Tr.block ?_ | (refine Tr.seq ?_; refine Tr.block ?_)
        refine Tr.loop (fun k => st42b n B (some 0) i k) (fun k => i + k ≤ 7) (fun k => 7 - k) 0 (by omega) ?_ ?_
        · unfold st42b
          unfold gV gH
          refine wk_ren (fun n => n) ?_ ?_ rfl rfl rfl
          · repeat' (first | exact rfl | exact trivial | constructor)
          · repeat' (first | exact rfl | exact trivial | constructor)
        · intro k hk
          show Tr _ _ _ _ (st42b n B (some 0) i k) _
          unfold st42b
          first | refine tr_seq_region (by rw [hE]; rfl) ?_ | (refine Tr.seq ?_; refine tr_seq_region (by rw [hE]; rfl) ?_)
          repeat (refine vc_op rfl ?_; simp only [go_sem, ↓Nat.reduceBEq, ↓Nat.reduceAdd, ↓Nat.reduceSub, ↓Nat.reduceMul, ↓Nat.reduceEqDiff, ↓Nat.reducePow, ↓Nat.reduceLeDiff, ↓Nat.reduceLT, ↓Int.reduceLE, ↓Int.reduceLT, ↓reduceIte, ↓reduceCtorEq])
          refine vc_nil ?_
          first | refine Tr.cond rfl (fun h2 => ?_) (fun h2 => ?_) | refine Tr.seq (Tr.cond rfl (fun h2 => ?_) (fun h2 => ?_))
          · refine Tr.skip ?_
            try simp only [blockK, thenK, ↓reduceIte]
            have hk7 : i + k < 7 := by have := of_decide_eq_true h2; omega
            have hw2 := wrap_next (n := i + k) (by omega)
            first | refine Tr.block ?_ | (refine Tr.seq ?_; refine Tr.block ?_)
            refine tr_region (by rw [hE]; rfl) ?_
            repeat (refine vc_op rfl ?_; simp only [go_sem, ↓Nat.reduceBEq, ↓Nat.reduceAdd, ↓Nat.reduceSub, ↓Nat.reduceMul, ↓Nat.reduceEqDiff, ↓Nat.reducePow, ↓Nat.reduceLeDiff, ↓Nat.reduceLT, ↓Int.reduceLE, ↓Int.reduceLT, ↓reduceIte, ↓reduceCtorEq])
            refine vc_nil ?_
            try simp only [blockK, thenK, ↓reduceIte]
            refine tr_region (by rw [hE]; rfl) ?_
            repeat (refine vc_op rfl ?_; simp only [hw2, go_sem, ↓Nat.reduceBEq, ↓Nat.reduceAdd, ↓Nat.reduceSub, ↓Nat.reduceMul, ↓Nat.reduceEqDiff, ↓Nat.reducePow, ↓Nat.reduceLeDiff, ↓Nat.reduceLT, ↓Int.reduceLE, ↓Int.reduceLT, ↓reduceIte, ↓reduceCtorEq])
            refine vc_nil ?_
            try simp only [blockK, thenK, ↓reduceIte]
            refine ⟨k + 1, by omega, by omega, ?_⟩
            show Wk _ _ (st42b n B (some 0) i (k + 1))
            unfold st42b
            unfold gV gH
            refine wk_ren (fun n => n) ?_ ?_ rfl rfl rfl
            · repeat' (first | exact rfl | exact trivial | constructor)
            · repeat' (first | exact rfl | exact trivial | constructor)
          · refine Tr.exit ?_
            try simp only [blockK, thenK, ↓reduceIte]
            have hk7 : k = 7 - i := by
              have := of_decide_eq_false h2
              omega
            subst hk7
            have q1 : gV (some 0) B = .ms 0 1 B.length := rfl
            have q2 : gH (some 0) B = [(0, .row 1 (B.map bav))] := rfl
            have hpw := pwI_ne (7 - i) (by omega)
            have h256 : ((256 : Int) = 0) = False := eq_false (by decide)
            generalize hx : byteOf ((IntKind.u64.wrap (n.tdiv (pwI (7 - i)))).tmod 256) = x
            have hx' : byteAt n (7 - (i : Int)) = x := by rw [← hrb, hx]
            rw [q1, q2]
            apply tr_ml (by rw [hE]; rfl)
            intro Q hQ
            simp only [List.toList_toArray, List.map_cons, List.map_nil, mo, guardSlot, Option.map_some, Option.map_none, List.getElem?_toArray, List.getElem?_cons_succ, List.getElem?_cons_zero, Option.bind_some]
            (refine vm_op ?_); intro r hr; simp only [hpw, not_false_eq_true, go_sem, ↓Nat.reduceBEq, ↓Nat.reduceAdd, ↓Nat.reduceSub, ↓Nat.reduceMul, ↓Nat.reduceEqDiff, ↓Nat.reducePow, ↓Nat.reduceLeDiff, ↓Nat.reduceLT, ↓Int.reduceLE, ↓Int.reduceLT, ↓reduceIte, ↓reduceCtorEq]; subst hr
            (refine vm_op ?_); intro r hr; simp only [hpw, not_false_eq_true, go_sem, ↓Nat.reduceBEq, ↓Nat.reduceAdd, ↓Nat.reduceSub, ↓Nat.reduceMul, ↓Nat.reduceEqDiff, ↓Nat.reducePow, ↓Nat.reduceLeDiff, ↓Nat.reduceLT, ↓Int.reduceLE, ↓Int.reduceLT, ↓reduceIte, ↓reduceCtorEq]; subst hr
            (refine vm_op ?_); intro r hr; simp only [hpw, not_false_eq_true, go_sem, ↓Nat.reduceBEq, ↓Nat.reduceAdd, ↓Nat.reduceSub, ↓Nat.reduceMul, ↓Nat.reduceEqDiff, ↓Nat.reducePow, ↓Nat.reduceLeDiff, ↓Nat.reduceLT, ↓Int.reduceLE, ↓Int.reduceLT, ↓reduceIte, ↓reduceCtorEq]; subst hr
            (refine vm_op ?_); intro r hr; simp only [hpw, not_false_eq_true, go_sem, ↓Nat.reduceBEq, ↓Nat.reduceAdd, ↓Nat.reduceSub, ↓Nat.reduceMul, ↓Nat.reduceEqDiff, ↓Nat.reducePow, ↓Nat.reduceLeDiff, ↓Nat.reduceLT, ↓Int.reduceLE, ↓Int.reduceLT, ↓reduceIte, ↓reduceCtorEq]; subst hr
            (refine vm_op ?_); intro r hr; simp only [h256, not_false_eq_true, bav_byteOf, hx, go_sem, ↓Nat.reduceBEq, ↓Nat.reduceAdd, ↓Nat.reduceSub, ↓Nat.reduceMul, ↓Nat.reduceEqDiff, ↓Nat.reducePow, ↓Nat.reduceLeDiff, ↓Nat.reduceLT, ↓Int.reduceLE, ↓Int.reduceLT, ↓reduceIte, ↓reduceCtorEq]; subst hr
            (refine vm_op ?_); intro r hr; simp only [h256, not_false_eq_true, bav_byteOf, hx, go_sem, ↓Nat.reduceBEq, ↓Nat.reduceAdd, ↓Nat.reduceSub, ↓Nat.reduceMul, ↓Nat.reduceEqDiff, ↓Nat.reducePow, ↓Nat.reduceLeDiff, ↓Nat.reduceLT, ↓Int.reduceLE, ↓Int.reduceLT, ↓reduceIte, ↓reduceCtorEq]; subst hr
            (refine vm_op ?_); intro r hr; simp only [h256, not_false_eq_true, bav_byteOf, hx, go_sem, ↓Nat.reduceBEq, ↓Nat.reduceAdd, ↓Nat.reduceSub, ↓Nat.reduceMul, ↓Nat.reduceEqDiff, ↓Nat.reducePow, ↓Nat.reduceLeDiff, ↓Nat.reduceLT, ↓Int.reduceLE, ↓Int.reduceLT, ↓reduceIte, ↓reduceCtorEq]; subst hr
            (refine vm_op ?_); intro r hr; simp only [List.filter_cons, List.filter_nil, go_sem, ↓Nat.reduceBEq, ↓Nat.reduceAdd, ↓Nat.reduceSub, ↓Nat.reduceMul, ↓Nat.reduceEqDiff, ↓Nat.reducePow, ↓Nat.reduceLeDiff, ↓Nat.reduceLT, ↓Int.reduceLE, ↓Int.reduceLT, ↓reduceIte, ↓reduceCtorEq]; subst hr
            refine ⟨by omega, by omega, ?_⟩
            rw [show List.map bav B ++ [bav x] = (B ++ [x]).map bav from (List.map_append (f := bav) (l₁ := B) (l₂ := [x])).symm]
            (refine vm_op ?_); intro r hr; simp only [go_sem, ↓Nat.reduceBEq, ↓Nat.reduceAdd, ↓Nat.reduceSub, ↓Nat.reduceMul, ↓Nat.reduceEqDiff, ↓Nat.reducePow, ↓Nat.reduceLeDiff, ↓Nat.reduceLT, ↓Int.reduceLE, ↓Int.reduceLT, ↓reduceIte, ↓reduceCtorEq]; subst hr
            exact hQ
            try simp only [blockK, thenK, ↓reduceIte]
            refine tr_region (by rw [hE]; rfl) ?_
            repeat (refine vc_op rfl ?_; simp only [hw, go_sem, ↓Nat.reduceBEq, ↓Nat.reduceAdd, ↓Nat.reduceSub, ↓Nat.reduceMul, ↓Nat.reduceEqDiff, ↓Nat.reducePow, ↓Nat.reduceLeDiff, ↓Nat.reduceLT, ↓Int.reduceLE, ↓Int.reduceLT, ↓reduceIte, ↓reduceCtorEq])
            refine vc_nil ?_
            try simp only [blockK, thenK, ↓reduceIte]
            refine ⟨(some 1, i + 1), ⟨by omega, .inr rfl⟩, by simp only; omega, ?_⟩
            show Wk _ _ (st42 n L (some 1) (i + 1))
            unfold st42
            rw [hnx, ← List.append_assoc, hB, hx']
            have e : gV (some 1) (B ++ [x]) = .ms 1 1 (B.length + 1) := by
              unfold gV
              rw [List.length_append]
              rfl
            rw [e]
            unfold gH
            refine wk_ren (fun | 1 => 146 | n => n) ?_ ?_ rfl rfl rfl
            · repeat' (first | exact rfl | exact trivial | constructor)
            · repeat' (first | exact rfl | exact trivial | constructor)
      · have hi8 : i < 8 := by have := of_decide_eq_true h1; omega
        have hnx := be_next n i
        have hrb := ref_byte n hn.1 hn.2 i hi8
        have hw := wrap_next (n := i) (by omega)
        have hlen : (L ++ be n i).length ≤ 2000 := by rw [List.length_append, be_len]; omega
        generalize hB : L ++ be n i = B at hlen
        refine Tr.skip ?_
        try simp only [blockK, thenK, ↓reduceIte]
        first | refine Tr.block ?_ | (refine Tr.seq ?_; refine Tr.block ?_)
        first | refine tr_seq_region (by rw [hE]; rfl) ?_ | (refine Tr.seq ?_; refine tr_seq_region (by rw [hE]; rfl) ?_)
        repeat (refine vc_op rfl ?_; simp only [go_sem, ↓Nat.reduceBEq, ↓Nat.reduceAdd, ↓Nat.reduceSub, ↓Nat.reduceMul, ↓Nat.reduceEqDiff, ↓Nat.reducePow, ↓Nat.reduceLeDiff, ↓Nat.reduceLT, ↓Int.reduceLE, ↓Int.reduceLT, ↓reduceIte, ↓reduceCtorEq])
        refine vc_nil ?_
        first | refine tr_seq_region (by rw [hE]; rfl) ?_ | (refine Tr.seq ?_; refine tr_seq_region (by rw [hE]; rfl) ?_)
        repeat (refine vc_op rfl ?_; simp only [go_sem, ↓Nat.reduceBEq, ↓Nat.reduceAdd, ↓Nat.reduceSub, ↓Nat.reduceMul, ↓Nat.reduceEqDiff, ↓Nat.reducePow, ↓Nat.reduceLeDiff, ↓Nat.reduceLT, ↓Int.reduceLE, ↓Int.reduceLT, ↓reduceIte, ↓reduceCtorEq])
        refine vc_nil ?_
        first | refine Tr.block ?_ | (refine Tr.seq ?_; refine Tr.block ?_)
        refine Tr.loop (fun k => st42b n B (some 1) i k) (fun k => i + k ≤ 7) (fun k => 7 - k) 0 (by omega) ?_ ?_
        · unfold st42b
          unfold gV gH
          refine wk_ren (fun n => n) ?_ ?_ rfl rfl rfl
          · repeat' (first | exact rfl | exact trivial | constructor)
          · repeat' (first | exact rfl | exact trivial | constructor)
        · intro k hk
          show Tr _ _ _ _ (st42b n B (some 1) i k) _
          unfold st42b
          first | refine tr_seq_region (by rw [hE]; rfl) ?_ | (refine Tr.seq ?_; refine tr_seq_region (by rw [hE]; rfl) ?_)
          repeat (refine vc_op rfl ?_; simp only [go_sem, ↓Nat.reduceBEq, ↓Nat.reduceAdd, ↓Nat.reduceSub, ↓Nat.reduceMul, ↓Nat.reduceEqDiff, ↓Nat.reducePow, ↓Nat.reduceLeDiff, ↓Nat.reduceLT, ↓Int.reduceLE, ↓Int.reduceLT, ↓reduceIte, ↓reduceCtorEq])
          refine vc_nil ?_
          first | refine Tr.cond rfl (fun h2 => ?_) (fun h2 => ?_) | refine Tr.seq (Tr.cond rfl (fun h2 => ?_) (fun h2 => ?_))
          · refine Tr.skip ?_
            try simp only [blockK, thenK, ↓reduceIte]
            have hk7 : i + k < 7 := by have := of_decide_eq_true h2; omega
            have hw2 := wrap_next (n := i + k) (by omega)
            first | refine Tr.block ?_ | (refine Tr.seq ?_; refine Tr.block ?_)
            refine tr_region (by rw [hE]; rfl) ?_
            repeat (refine vc_op rfl ?_; simp only [go_sem, ↓Nat.reduceBEq, ↓Nat.reduceAdd, ↓Nat.reduceSub, ↓Nat.reduceMul, ↓Nat.reduceEqDiff, ↓Nat.reducePow, ↓Nat.reduceLeDiff, ↓Nat.reduceLT, ↓Int.reduceLE, ↓Int.reduceLT, ↓reduceIte, ↓reduceCtorEq])
            refine vc_nil ?_
            try simp only [blockK, thenK, ↓reduceIte]
            refine tr_region (by rw [hE]; rfl) ?_
            repeat (refine vc_op rfl ?_; simp only [hw2, go_sem, ↓Nat.reduceBEq, ↓Nat.reduceAdd, ↓Nat.reduceSub, ↓Nat.reduceMul, ↓Nat.reduceEqDiff, ↓Nat.reducePow, ↓Nat.reduceLeDiff, ↓Nat.reduceLT, ↓Int.reduceLE, ↓Int.reduceLT, ↓reduceIte, ↓reduceCtorEq])
            refine vc_nil ?_
            try simp only [blockK, thenK, ↓reduceIte]
            refine ⟨k + 1, by omega, by omega, ?_⟩
            show Wk _ _ (st42b n B (some 1) i (k + 1))
            unfold st42b
            unfold gV gH
            refine wk_ren (fun n => n) ?_ ?_ rfl rfl rfl
            · repeat' (first | exact rfl | exact trivial | constructor)
            · repeat' (first | exact rfl | exact trivial | constructor)
          · refine Tr.exit ?_
            try simp only [blockK, thenK, ↓reduceIte]
            have hk7 : k = 7 - i := by
              have := of_decide_eq_false h2
              omega
            subst hk7
            have q1 : gV (some 1) B = .ms 1 1 B.length := rfl
            have q2 : gH (some 1) B = [(1, .row 1 (B.map bav))] := rfl
            have hpw := pwI_ne (7 - i) (by omega)
            have h256 : ((256 : Int) = 0) = False := eq_false (by decide)
            generalize hx : byteOf ((IntKind.u64.wrap (n.tdiv (pwI (7 - i)))).tmod 256) = x
            have hx' : byteAt n (7 - (i : Int)) = x := by rw [← hrb, hx]
            rw [q1, q2]
            apply tr_ml (by rw [hE]; rfl)
            intro Q hQ
            simp only [List.toList_toArray, List.map_cons, List.map_nil, mo, guardSlot, Option.map_some, Option.map_none, List.getElem?_toArray, List.getElem?_cons_succ, List.getElem?_cons_zero, Option.bind_some]
            (refine vm_op ?_); intro r hr; simp only [hpw, not_false_eq_true, go_sem, ↓Nat.reduceBEq, ↓Nat.reduceAdd, ↓Nat.reduceSub, ↓Nat.reduceMul, ↓Nat.reduceEqDiff, ↓Nat.reducePow, ↓Nat.reduceLeDiff, ↓Nat.reduceLT, ↓Int.reduceLE, ↓Int.reduceLT, ↓reduceIte, ↓reduceCtorEq]; subst hr
            (refine vm_op ?_); intro r hr; simp only [hpw, not_false_eq_true, go_sem, ↓Nat.reduceBEq, ↓Nat.reduceAdd, ↓Nat.reduceSub, ↓Nat.reduceMul, ↓Nat.reduceEqDiff, ↓Nat.reducePow, ↓Nat.reduceLeDiff, ↓Nat.reduceLT, ↓Int.reduceLE, ↓Int.reduceLT, ↓reduceIte, ↓reduceCtorEq]; subst hr
            (refine vm_op ?_); intro r hr; simp only [hpw, not_false_eq_true, go_sem, ↓Nat.reduceBEq, ↓Nat.reduceAdd, ↓Nat.reduceSub, ↓Nat.reduceMul, ↓Nat.reduceEqDiff, ↓Nat.reducePow, ↓Nat.reduceLeDiff, ↓Nat.reduceLT, ↓Int.reduceLE, ↓Int.reduceLT, ↓reduceIte, ↓reduceCtorEq]; subst hr
            (refine vm_op ?_); intro r hr; simp only [hpw, not_false_eq_true, go_sem, ↓Nat.reduceBEq, ↓Nat.reduceAdd, ↓Nat.reduceSub, ↓Nat.reduceMul, ↓Nat.reduceEqDiff, ↓Nat.reducePow, ↓Nat.reduceLeDiff, ↓Nat.reduceLT, ↓Int.reduceLE, ↓Int.reduceLT, ↓reduceIte, ↓reduceCtorEq]; subst hr
            (refine vm_op ?_); intro r hr; simp only [h256, not_false_eq_true, bav_byteOf, hx, go_sem, ↓Nat.reduceBEq, ↓Nat.reduceAdd, ↓Nat.reduceSub, ↓Nat.reduceMul, ↓Nat.reduceEqDiff, ↓Nat.reducePow, ↓Nat.reduceLeDiff, ↓Nat.reduceLT, ↓Int.reduceLE, ↓Int.reduceLT, ↓reduceIte, ↓reduceCtorEq]; subst hr
            (refine vm_op ?_); intro r hr; simp only [h256, not_false_eq_true, bav_byteOf, hx, go_sem, ↓Nat.reduceBEq, ↓Nat.reduceAdd, ↓Nat.reduceSub, ↓Nat.reduceMul, ↓Nat.reduceEqDiff, ↓Nat.reducePow, ↓Nat.reduceLeDiff, ↓Nat.reduceLT, ↓Int.reduceLE, ↓Int.reduceLT, ↓reduceIte, ↓reduceCtorEq]; subst hr
            (refine vm_op ?_); intro r hr; simp only [h256, not_false_eq_true, bav_byteOf, hx, go_sem, ↓Nat.reduceBEq, ↓Nat.reduceAdd, ↓Nat.reduceSub, ↓Nat.reduceMul, ↓Nat.reduceEqDiff, ↓Nat.reducePow, ↓Nat.reduceLeDiff, ↓Nat.reduceLT, ↓Int.reduceLE, ↓Int.reduceLT, ↓reduceIte, ↓reduceCtorEq]; subst hr
            (refine vm_op ?_); intro r hr; simp only [List.filter_cons, List.filter_nil, go_sem, ↓Nat.reduceBEq, ↓Nat.reduceAdd, ↓Nat.reduceSub, ↓Nat.reduceMul, ↓Nat.reduceEqDiff, ↓Nat.reducePow, ↓Nat.reduceLeDiff, ↓Nat.reduceLT, ↓Int.reduceLE, ↓Int.reduceLT, ↓reduceIte, ↓reduceCtorEq]; subst hr
            refine ⟨by omega, by omega, ?_⟩
            rw [show List.map bav B ++ [bav x] = (B ++ [x]).map bav from (List.map_append (f := bav) (l₁ := B) (l₂ := [x])).symm]
            (refine vm_op ?_); intro r hr; simp only [go_sem, ↓Nat.reduceBEq, ↓Nat.reduceAdd, ↓Nat.reduceSub, ↓Nat.reduceMul, ↓Nat.reduceEqDiff, ↓Nat.reducePow, ↓Nat.reduceLeDiff, ↓Nat.reduceLT, ↓Int.reduceLE, ↓Int.reduceLT, ↓reduceIte, ↓reduceCtorEq]; subst hr
            exact hQ
            try simp only [blockK, thenK, ↓reduceIte]
            refine tr_region (by rw [hE]; rfl) ?_
            repeat (refine vc_op rfl ?_; simp only [hw, go_sem, ↓Nat.reduceBEq, ↓Nat.reduceAdd, ↓Nat.reduceSub, ↓Nat.reduceMul, ↓Nat.reduceEqDiff, ↓Nat.reducePow, ↓Nat.reduceLeDiff, ↓Nat.reduceLT, ↓Int.reduceLE, ↓Int.reduceLT, ↓reduceIte, ↓reduceCtorEq])
            refine vc_nil ?_
            try simp only [blockK, thenK, ↓reduceIte]
            refine ⟨(some 1, i + 1), ⟨by omega, .inr rfl⟩, by simp only; omega, ?_⟩
            show Wk _ _ (st42 n L (some 1) (i + 1))
            unfold st42
            rw [hnx, ← List.append_assoc, hB, hx']
            have e : gV (some 1) (B ++ [x]) = .ms 1 1 (B.length + 1) := by
              unfold gV
              rw [List.length_append]
              rfl
            rw [e]
            unfold gH
            refine wk_ren (fun | 1 => 146 | n => n) ?_ ?_ rfl rfl rfl
            · repeat' (first | exact rfl | exact trivial | constructor)
            · repeat' (first | exact rfl | exact trivial | constructor)
    · refine Tr.exit ?_
      try simp only [blockK, thenK, ↓reduceIte]
      have hil : i = 8 := by
        have := of_decide_eq_false h1
        omega
      have hmk : m = some 1 := by
        rcases hm with ⟨_, h⟩ | h
        · omega
        · exact h
      subst hil
      subst hmk
      have hl : (L ++ be n 8).length = L.length + 8 := by rw [List.length_append, be_len]
      rw [show gV (some 1) (L ++ be n 8) = .ms 1 1 (L ++ be n 8).length from rfl, show gH (some 1) (L ++ be n 8) = [(1, .row 1 ((L ++ be n 8).map bav))] from rfl, hl]
      first | refine tr_seq_region (by rw [hE]; rfl) ?_ | (refine Tr.seq ?_; refine tr_seq_region (by rw [hE]; rfl) ?_)
      repeat (refine vc_op rfl ?_; simp only [go_sem, ↓Nat.reduceBEq, ↓Nat.reduceAdd, ↓Nat.reduceSub, ↓Nat.reduceMul, ↓Nat.reduceEqDiff, ↓Nat.reducePow, ↓Nat.reduceLeDiff, ↓Nat.reduceLT, ↓Int.reduceLE, ↓Int.reduceLT, ↓reduceIte, ↓reduceCtorEq])
      refine vc_nil ?_
      refine Tr.ret ?_
      simp only [Try.f42, go_sem, ↓Nat.reduceBEq, ↓Nat.reduceAdd, ↓Nat.reduceSub, ↓Nat.reduceMul, ↓Nat.reduceEqDiff, ↓Nat.reducePow, ↓Nat.reduceLeDiff, ↓Nat.reduceLT, ↓Int.reduceLE, ↓Int.reduceLT, ↓reduceIte, ↓reduceCtorEq]
      exact ⟨fun n => n, rfl, ⟨⟨rfl, rfl, rfl⟩, trivial⟩, rfl, fun _ _ => rfl⟩
