/- What is put is read as it, what is read is put as it: plain lists. -/
import Derived.Test.YtpcegpfbmmgbbaaWiF
set_option linter.unusedSimpArgs false
namespace Go.Proofs.Ytpcegpfbmmgbbaa
open Go Go.Ab

theorem wrap_u64 (m : Nat) (h : m < 2 ^ 64) : IntKind.u64.wrap (m : Int) = (m : Int) := by
  simp [IntKind.wrap, IntKind.bits, IntKind.signed]
  omega
theorem wrap_i64 (m : Nat) (h : m < 2 ^ 63) : IntKind.i64.wrap (m : Int) = (m : Int) := by
  simp [IntKind.wrap, IntKind.bits, IntKind.signed]
  omega
theorem wrap_u8 (m : Nat) : IntKind.u8.wrap (m : Int) = ((m % 256 : Nat) : Int) := by
  simp [IntKind.wrap, IntKind.bits, IntKind.signed]
theorem or_byte (a b : Nat) (hb : b < 256) : a * 256 ||| b = a * 256 + b := by
  have h := Nat.two_pow_add_eq_or_of_lt (i := 8) (b := b) (by omega) a
  rw [show a * 256 = 2 ^ 8 * a by omega, h]
theorem bv_or64 (x y : Nat) (hx : x < 2 ^ 64) (hy : y < 2 ^ 64) : (BitVec.ofInt 64 (x : Int) ||| BitVec.ofInt 64 (y : Int)).toNat = x ||| y := by
  rw [BitVec.toNat_or, BitVec.ofInt_natCast, BitVec.ofInt_natCast, BitVec.toNat_ofNat, BitVec.toNat_ofNat, Nat.mod_eq_of_lt hx, Nat.mod_eq_of_lt hy]
theorem ostep_nat (m : Nat) (b : UInt8) (h : m < 2 ^ 56) : ostep (m : Int) b = ((m * 256 + b.toNat : Nat) : Int) := by
  have hb := b.toNat_lt
  have e1 : IntKind.u64.wrap ((m : Int) * 2 ^ min (8 : Int).toNat IntKind.u64.bits) = ((m * 256 : Nat) : Int) := by
    rw [show ((m : Int) * 2 ^ min (8 : Int).toNat IntKind.u64.bits) = ((m * 256 : Nat) : Int) from by
      rw [Int.natCast_mul]; rfl]
    exact wrap_u64 _ (by omega)
  have e2 : IntKind.u64.wrap ((b.toNat : Nat) : Int) = ((b.toNat : Nat) : Int) := wrap_u64 _ (by omega)
  unfold ostep
  rw [e1, e2]
  show IntKind.u64.wrap ((BitVec.ofInt 64 ((m * 256 : Nat) : Int) ||| BitVec.ofInt 64 ((b.toNat : Nat) : Int)).toNat : Int) = _
  rw [bv_or64 _ _ (by omega) (by omega), or_byte m _ (by omega), wrap_u64 _ (by omega)]
def natOf (l : List UInt8) : Nat := l.foldl (fun n b => n * 256 + b.toNat) 0
theorem fold_nat (l : List UInt8) : ∀ (m : Nat), (m + 1) * 256 ^ l.length ≤ 2 ^ 64 → l.foldl ostep (m : Int) = ((l.foldl (fun n b => n * 256 + b.toNat) m : Nat) : Int) := by
  induction l with
  | nil => intro m _; rfl
  | cons b l ih =>
    intro m h
    have hp : 0 < 256 ^ l.length := Nat.pow_pos (by decide)
    rw [List.length_cons, Nat.pow_succ] at h
    have hm : m < 2 ^ 56 := by
      have h1 : (m + 1) * 256 ≤ (m + 1) * (256 ^ l.length * 256) := Nat.mul_le_mul_left _ (Nat.le_mul_of_pos_left 256 hp)
      omega
    rw [List.foldl_cons, List.foldl_cons, ostep_nat m b hm]
    apply ih
    have hb := b.toNat_lt
    calc (m * 256 + b.toNat + 1) * 256 ^ l.length ≤ ((m + 1) * 256) * 256 ^ l.length := Nat.mul_le_mul_right _ (by omega)
      _ = (m + 1) * (256 ^ l.length * 256) := by rw [Nat.mul_assoc, Nat.mul_comm 256]
      _ ≤ _ := h
theorem numOf_nat (l : List UInt8) (h : l.length ≤ 8) : numOf l = (natOf l : Int) := by
  have h1 : 256 ^ l.length ≤ 256 ^ 8 := Nat.pow_le_pow_right (by decide) h
  exact fold_nat l 0 (by omega)
theorem byteOf_nat (m : Nat) : byteOf (m : Int) = UInt8.ofNat (m % 256) := by rw [byteOf, wrap_u8]; rfl
theorem byteAt_nat (m : Nat) (j : Nat) (hj : j < 8) : byteAt (m : Int) (j : Int) = UInt8.ofNat (m / 256 ^ j % 256) := by
  have e : IntKind.i64.wrap (8 * (j : Int)) = ((8 * j : Nat) : Int) := by
    rw [show (8 * (j : Int)) = ((8 * j : Nat) : Int) from by push_cast; rfl]
    exact wrap_i64 _ (by omega)
  rw [byteAt, e, Int.toNat_natCast, show min (8 * j) IntKind.u64.bits = 8 * j from Nat.min_eq_left (by show 8 * j ≤ 64; omega)]
  have e2 : (2 : Int) ^ (8 * j) = ((256 ^ j : Nat) : Int) := by
    rw [Int.natCast_pow, Int.pow_mul]; rfl
  rw [e2, Int.fdiv_eq_ediv_of_nonneg _ (Int.natCast_nonneg _), ← Int.natCast_ediv, byteOf_nat]
theorem be8 (m : Nat) : be (m : Int) 8 = [UInt8.ofNat (m / 256 ^ 7 % 256), UInt8.ofNat (m / 256 ^ 6 % 256), UInt8.ofNat (m / 256 ^ 5 % 256), UInt8.ofNat (m / 256 ^ 4 % 256), UInt8.ofNat (m / 256 ^ 3 % 256), UInt8.ofNat (m / 256 ^ 2 % 256), UInt8.ofNat (m / 256 ^ 1 % 256), UInt8.ofNat (m / 256 ^ 0 % 256)] := by
  rw [← byteAt_nat m 7 (by decide), ← byteAt_nat m 6 (by decide), ← byteAt_nat m 5 (by decide), ← byteAt_nat m 4 (by decide), ← byteAt_nat m 3 (by decide), ← byteAt_nat m 2 (by decide), ← byteAt_nat m 1 (by decide), ← byteAt_nat m 0 (by decide)]
  rfl
theorem u8_ofNat (m : Nat) : (UInt8.ofNat (m % 256)).toNat = m % 256 := by
  rw [UInt8.toNat_ofNat']; omega
theorem numOf_be (n : Int) (h0 : 0 ≤ n) (h1 : n < 2 ^ 64) : numOf (be n 8) = n := by
  obtain ⟨m, rfl⟩ := Int.eq_ofNat_of_zero_le h0
  have hm : m < 2 ^ 64 := by omega
  rw [numOf_nat _ (by rw [be_len]; exact Nat.le_refl 8), be8]
  simp only [natOf, List.foldl_cons, List.foldl_nil, u8_ofNat]
  omega
theorem natOf_lt (l : List UInt8) : natOf l < 256 ^ l.length := by
  have : ∀ (l : List UInt8) (m : Nat), l.foldl (fun n b => n * 256 + b.toNat) m < (m + 1) * 256 ^ l.length := by
    intro l
    induction l with
    | nil => intro m; simp
    | cons b l ih =>
      intro m
      have hb := b.toNat_lt
      rw [List.foldl_cons, List.length_cons, Nat.pow_succ]
      calc _ < (m * 256 + b.toNat + 1) * 256 ^ l.length := ih _
        _ ≤ ((m + 1) * 256) * 256 ^ l.length := Nat.mul_le_mul_right _ (by omega)
        _ = _ := by rw [Nat.mul_assoc, Nat.mul_comm 256]
  have h := this l 0
  rw [Nat.zero_add, Nat.one_mul] at h
  exact h
theorem numOf_range (l : List UInt8) (h : l.length = 8) : 0 ≤ numOf l ∧ numOf l < 2 ^ 64 := by
  rw [numOf_nat l (by omega)]
  have := natOf_lt l
  rw [h] at this
  omega
theorem u8_of_eq {b : UInt8} {m : Nat} (h : m = b.toNat) : UInt8.ofNat m = b := by
  subst h; exact UInt8.ofNat_toNat
theorem be_numOf (l : List UInt8) (h : l.length = 8) : be (numOf l) 8 = l := by
  rw [numOf_nat l (by omega), be8]
  match l, h with
  | [a, b, c, d, e, f, g, i], _ =>
    have ha := a.toNat_lt; have hb := b.toNat_lt; have hc := c.toNat_lt; have hd := d.toNat_lt; have he := e.toNat_lt; have hf := f.toNat_lt; have hg := g.toNat_lt; have hi := i.toNat_lt
    simp only [natOf, List.foldl_cons, List.foldl_nil]
    simp only [List.cons.injEq, and_true]
    refine ⟨?_, ?_, ?_, ?_, ?_, ?_, ?_, ?_⟩ <;> (apply u8_of_eq; omega)

theorem drop_at {xs ys : List UInt8} {k : Nat} (h : xs.length = k) (n : Nat) : (xs ++ ys).drop (k + n) = ys.drop n := by
  rw [← List.drop_drop, List.drop_left' h]
theorem rootOf_app (r : Root) (ys : List UInt8) : rootOf (r.1 ++ ys) = r := by
  have h := r.2
  have h32 : 32 ≤ (r.1 ++ ys).length := by rw [List.length_append, h]; omega
  rw [rootOf, dif_pos h32]
  apply Subtype.ext
  exact List.take_left' h
theorem rootOf_val (l : List UInt8) (h : 32 ≤ l.length) : (rootOf l).1 = l.take 32 := by rw [rootOf, dif_pos h]
theorem take_at {xs ys : List UInt8} {k : Nat} (h : xs.length = k) : (xs ++ ys).take k = xs := List.take_left' h

theorem blockOf_parts (x : UInt8) (r p : Root) (q1 q2 : List UInt8) (h1 : q1.length = 8) (h2 : q2.length = 8) : blockOf (x :: (r.1 ++ (p.1 ++ (q1 ++ q2)))) = ⟨r, p, numOf q1, numOf q2⟩ := by
  have e1 : (x :: (r.1 ++ (p.1 ++ (q1 ++ q2)))).drop 1 = r.1 ++ (p.1 ++ (q1 ++ q2)) := rfl
  have e33 : (x :: (r.1 ++ (p.1 ++ (q1 ++ q2)))).drop 33 = p.1 ++ (q1 ++ q2) := by
    rw [show 33 = 1 + (32 + 0) from rfl, ← List.drop_drop, e1, drop_at r.2, List.drop_zero]
  have e65 : (x :: (r.1 ++ (p.1 ++ (q1 ++ q2)))).drop 65 = q1 ++ q2 := by
    rw [show 65 = 33 + (32 + 0) from rfl, ← List.drop_drop, e33, drop_at p.2, List.drop_zero]
  have e73 : (x :: (r.1 ++ (p.1 ++ (q1 ++ q2)))).drop 73 = q2 := by
    rw [show 73 = 65 + (8 + 0) from rfl, ← List.drop_drop, e65, drop_at h1, List.drop_zero]
  rw [blockOf, e1, e33, e65, e73, rootOf_app, rootOf_app, take_at h1, List.take_of_length_le (by omega)]
theorem blockB_parts (b : Block) : blockB b = 1 :: (b.root.1 ++ (b.parent.1 ++ (be b.slot 8 ++ be b.just 8))) := by simp [blockB, rootsB, numsB]
structure Block.Ok (b : Block) : Prop where
  slot : 0 ≤ b.slot ∧ b.slot < 2 ^ 64
  just : 0 ≤ b.just ∧ b.just < 2 ^ 64
theorem blockOf_blockB (b : Block) (h : b.Ok) : blockOf (blockB b) = b := by
  rw [blockB_parts, blockOf_parts 1 b.root b.parent _ _ (be_len _ _) (be_len _ _), numOf_be _ h.slot.1 h.slot.2, numOf_be _ h.just.1 h.just.2]
theorem cut (l : List UInt8) (k n : Nat) (h : l.length = k + n) : ∃ a b, l = a ++ b ∧ a.length = k ∧ b.length = n :=
  ⟨l.take k, l.drop k, (List.take_append_drop k l).symm, by simp; omega, by simp; omega⟩
theorem block_cut (l : List UInt8) (h : isOf l 81 1 = true) : ∃ (r p : Root) (q1 q2 : List UInt8), q1.length = 8 ∧ q2.length = 8 ∧ l = 1 :: (r.1 ++ (p.1 ++ (q1 ++ q2))) := by
  rw [isOf, Bool.and_eq_true] at h
  have hl := of_decide_eq_true h.1
  have hh := of_decide_eq_true h.2
  cases l with
  | nil => cases hl
  | cons x t =>
    simp only [List.head?_cons, Option.some.injEq] at hh
    subst hh
    obtain ⟨a, t, rfl, ha, ht⟩ := cut t 32 48 (by simpa using hl)
    obtain ⟨b, t, rfl, hb, ht⟩ := cut t 32 16 (by omega)
    obtain ⟨c, d, rfl, hc, hd⟩ := cut t 8 8 (by omega)
    exact ⟨⟨a, ha⟩, ⟨b, hb⟩, c, d, hc, hd, rfl⟩
theorem blockB_blockOf (l : List UInt8) (h : isOf l 81 1 = true) : blockB (blockOf l) = l ∧ (blockOf l).Ok := by
  obtain ⟨r, p, q1, q2, h1, h2, rfl⟩ := block_cut l h
  rw [blockOf_parts _ _ _ _ _ h1 h2]
  refine ⟨?_, numOf_range q1 h1, numOf_range q2 h2⟩
  rw [blockB_parts]
  simp only [be_numOf _ h1, be_numOf _ h2]
theorem isOf_blockB (b : Block) : isOf (blockB b) 81 1 = true := by
  rw [isOf, blockB_len, blockB_parts]; rfl

theorem valOf_parts (x a b : UInt8) (l : List UInt8) : valOf (x :: a :: b :: l) = ((a.toNat * 256 + b.toNat : Nat) : Int) := by
  have ha := a.toNat_lt
  have hb := b.toNat_lt
  unfold valOf
  show bitsI .or .i64 (IntKind.i64.wrap (IntKind.i64.wrap ((a.toNat : Nat) : Int) * 2 ^ min (Int.toNat 8) 64)) (IntKind.i64.wrap ((b.toNat : Nat) : Int)) = _
  rw [wrap_i64 a.toNat (by omega), wrap_i64 b.toNat (by omega), show ((a.toNat : Nat) : Int) * 2 ^ min (Int.toNat 8) 64 = ((a.toNat * 256 : Nat) : Int) from by rw [Int.natCast_mul]; rfl, wrap_i64 _ (by omega)]
  show IntKind.i64.wrap ((BitVec.ofInt 64 ((a.toNat * 256 : Nat) : Int) ||| BitVec.ofInt 64 ((b.toNat : Nat) : Int)).toNat : Int) = _
  rw [bv_or64 _ _ (by omega) (by omega), or_byte _ _ (by omega), wrap_i64 _ (by omega)]

structure Att.Ok (a : Att) : Prop where
  slot : 0 ≤ a.slot ∧ a.slot < 2 ^ 64
  se : 0 ≤ a.source.epoch ∧ a.source.epoch < 2 ^ 64
  te : 0 ≤ a.target.epoch ∧ a.target.epoch < 2 ^ 64
theorem checkOf_parts (q : List UInt8) (r : Root) (ys : List UInt8) (h : q.length = 8) : checkOf (q ++ (r.1 ++ ys)) = ⟨numOf q, r⟩ := by
  rw [checkOf, take_at h, show 8 = 8 + 0 from rfl, drop_at h, List.drop_zero, rootOf_app]
theorem attOf_parts (x a b : UInt8) (q1 : List UInt8) (r1 : Root) (q2 : List UInt8) (r2 : Root) (q3 : List UInt8) (r3 : Root) (h1 : q1.length = 8) (h2 : q2.length = 8) (h3 : q3.length = 8) :
    attOf (x :: a :: b :: (q1 ++ (r1.1 ++ (q2 ++ (r2.1 ++ (q3 ++ r3.1)))))) = ⟨((a.toNat * 256 + b.toNat : Nat) : Int), numOf q1, r1, ⟨numOf q2, r2⟩, ⟨numOf q3, r3⟩⟩ := by
  have e3 : (x :: a :: b :: (q1 ++ (r1.1 ++ (q2 ++ (r2.1 ++ (q3 ++ r3.1)))))).drop 3 = q1 ++ (r1.1 ++ (q2 ++ (r2.1 ++ (q3 ++ r3.1)))) := rfl
  have e11 : (x :: a :: b :: (q1 ++ (r1.1 ++ (q2 ++ (r2.1 ++ (q3 ++ r3.1)))))).drop 11 = r1.1 ++ (q2 ++ (r2.1 ++ (q3 ++ r3.1))) := by
    rw [show 11 = 3 + (8 + 0) from rfl, ← List.drop_drop, e3, drop_at h1, List.drop_zero]
  have e43 : (x :: a :: b :: (q1 ++ (r1.1 ++ (q2 ++ (r2.1 ++ (q3 ++ r3.1)))))).drop 43 = q2 ++ (r2.1 ++ (q3 ++ r3.1)) := by
    rw [show 43 = 11 + (32 + 0) from rfl, ← List.drop_drop, e11, drop_at r1.2, List.drop_zero]
  have e83 : (x :: a :: b :: (q1 ++ (r1.1 ++ (q2 ++ (r2.1 ++ (q3 ++ r3.1)))))).drop 83 = q3 ++ (r3.1 ++ []) := by
    rw [show 83 = 43 + (8 + (32 + 0)) from rfl, ← List.drop_drop, e43, drop_at h2, drop_at r2.2, List.drop_zero, List.append_nil]
  rw [attOf, valOf_parts, e3, e11, e43, e83, take_at h1, rootOf_app, checkOf_parts _ _ _ h2, checkOf_parts _ _ _ h3]
theorem attB_parts (a : Att) : attB a = 2 :: byteOf (a.val.fdiv (2 ^ min (Int.toNat 8) 64)) :: byteOf a.val :: (be a.slot 8 ++ (a.head.1 ++ (be a.source.epoch 8 ++ (a.source.root.1 ++ (be a.target.epoch 8 ++ a.target.root.1))))) := by
  simp [attB, rootsB, numsB, checkB]
theorem canV_range {a : Att} (h : canV a = true) : 0 ≤ a.val ∧ a.val ≤ 65535 := by
  rw [canV, Bool.and_eq_true] at h
  exact ⟨of_decide_eq_true h.1, of_decide_eq_true h.2⟩
theorem attOf_attB (a : Att) (h : a.Ok) (hc : canV a = true) : attOf (attB a) = a := by
  obtain ⟨h0, h1⟩ := canV_range hc
  rw [attB_parts, attOf_parts _ _ _ _ _ _ _ _ _ (be_len _ _) (be_len _ _) (be_len _ _), numOf_be _ h.slot.1 h.slot.2, numOf_be _ h.se.1 h.se.2, numOf_be _ h.te.1 h.te.2]
  obtain ⟨m, hm⟩ := Int.eq_ofNat_of_zero_le h0
  have hv : (((byteOf (a.val.fdiv (2 ^ min (Int.toNat 8) 64))).toNat * 256 + (byteOf a.val).toNat : Nat) : Int) = a.val := by
    rw [hm, show (m : Int).fdiv (2 ^ min (Int.toNat 8) 64) = ((m / 256 : Nat) : Int) from by rw [Int.fdiv_eq_ediv_of_nonneg _ (by decide), Int.natCast_ediv]; rfl, byteOf_nat, byteOf_nat, u8_ofNat, u8_ofNat]
    omega
  rw [hv]
theorem att_cut (l : List UInt8) (h : isOf l 123 2 = true) : ∃ (a b : UInt8) (q1 : List UInt8) (r1 : Root) (q2 : List UInt8) (r2 : Root) (q3 : List UInt8) (r3 : Root), q1.length = 8 ∧ q2.length = 8 ∧ q3.length = 8 ∧ l = 2 :: a :: b :: (q1 ++ (r1.1 ++ (q2 ++ (r2.1 ++ (q3 ++ r3.1))))) := by
  rw [isOf, Bool.and_eq_true] at h
  have hl := of_decide_eq_true h.1
  have hh := of_decide_eq_true h.2
  match l, hl, hh with
  | x :: a :: b :: t, hl, hh =>
    simp only [List.head?_cons, Option.some.injEq] at hh
    subst hh
    obtain ⟨q1, t, rfl, h1, ht⟩ := cut t 8 112 (by simpa using hl)
    obtain ⟨r1, t, rfl, g1, ht⟩ := cut t 32 80 (by omega)
    obtain ⟨q2, t, rfl, h2, ht⟩ := cut t 8 72 (by omega)
    obtain ⟨r2, t, rfl, g2, ht⟩ := cut t 32 40 (by omega)
    obtain ⟨q3, r3, rfl, h3, g3⟩ := cut t 8 32 (by omega)
    exact ⟨a, b, q1, ⟨r1, g1⟩, q2, ⟨r2, g2⟩, q3, ⟨r3, g3⟩, h1, h2, h3, rfl⟩
theorem attB_attOf (l : List UInt8) (h : isOf l 123 2 = true) : attB (attOf l) = l ∧ (attOf l).Ok ∧ canV (attOf l) = true := by
  obtain ⟨a, b, q1, r1, q2, r2, q3, r3, h1, h2, h3, rfl⟩ := att_cut l h
  have ha := a.toNat_lt
  have hb := b.toNat_lt
  rw [attOf_parts _ _ _ _ _ _ _ _ _ h1 h2 h3]
  refine ⟨?_, ⟨numOf_range q1 h1, numOf_range q2 h2, numOf_range q3 h3⟩, ?_⟩
  · rw [attB_parts]
    simp only [be_numOf _ h1, be_numOf _ h2, be_numOf _ h3]
    rw [show ((a.toNat * 256 + b.toNat : Nat) : Int).fdiv (2 ^ min (Int.toNat 8) 64) = (((a.toNat * 256 + b.toNat) / 256 : Nat) : Int) from by rw [Int.fdiv_eq_ediv_of_nonneg _ (by decide), Int.natCast_ediv]; rfl, byteOf_nat, byteOf_nat, u8_of_eq (b := a) (by omega), u8_of_eq (b := b) (by omega)]
  · rw [canV, Bool.and_eq_true]
    exact ⟨decide_eq_true (by simp only; omega), decide_eq_true (by simp only; omega)⟩
theorem isOf_attB (a : Att) : isOf (attB a) 123 2 = true := by
  rw [isOf, attB_len, attB_parts]; rfl
