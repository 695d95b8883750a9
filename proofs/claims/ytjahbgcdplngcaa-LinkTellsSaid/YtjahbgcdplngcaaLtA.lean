/- The functions of layer 13 and its reference, as far as the laws of the layer reach them: what each answers. -/
import Derived.Test.YtjahbgcdplngcaaAbFour
import Derived.Test.YtjahbgcdplngcaaProg
set_option linter.unusedSimpArgs false
namespace Go.Proofs.Ytjahbgcdplngcaa
open Go Go.Ab

structure Check where
  epoch : Int
  root : Root
  deriving DecidableEq
structure Att where
  val : Int
  slot : Int
  head : Root
  source : Check
  target : Check
  deriving DecidableEq
def Check.av (c : Check) : AV := .st [.int .u64 c.epoch, .root c.root]
def Att.av (a : Att) : AV := .st [.int .i64 a.val, .int .u64 a.slot, .root a.head, a.source.av, a.target.av]
@[go_sem] theorem Att.av_flat (a : Att) : a.av.flat = true := rfl
@[go_sem] theorem Att.av_frz (hp : HP) (a : Att) : a.av.frz hp = a.av := rfl
@[go_sem] theorem Att.av_idL (a : Att) : a.av.idL = [] := rfl
@[go_sem] theorem Att.av_len (a : Att) : a.av.len = 100 := rfl
@[go_sem] theorem Att.av_agg (a : Att) : a.av.agg = true := rfl
@[go_sem] theorem Att.av_idf (a : Att) : a.av.idf = true := rfl
@[go_sem] theorem Att.av_ok (a : Att) : a.av.ok = true := rfl
@[go_sem] theorem tField47_1 : tFieldI Try.prog 47 1 = some (1, 1, false) := by kernel_rfl
@[go_sem] theorem fap47_1 (o : Nat) (p : List Nat) (off : Nat) (K : AV → Prop) : fieldAddrK Try.prog 47 (.ptr o p off) 1 K = K (.ptr o (p ++ [1]) (off + 1)) := fieldAddr_ptr tField47_1 (by decide) o p off K
@[go_sem] theorem far47_1 (a : Att) (K : AV → Prop) : fieldAddrK Try.prog 47 (.ref a.av) 1 K = K (.ref (.int .u64 a.slot)) := fieldAddr_ref tField47_1 (by decide) rfl rfl K
@[go_sem] theorem sub47_1 (a : Att) : a.av.sub [1] = some (.int .u64 a.slot) := rfl
@[go_sem] theorem offs47_1 (a : Att) : a.av.offs [1] = some 1 := rfl
@[go_sem] theorem tSize23 : tSize Try.prog 23 = some 1 := by kernel_rfl
@[go_sem] theorem tAgg23 : tAgg Try.prog 23 = some false := by kernel_rfl
@[go_sem] theorem tSize47 : tSize Try.prog 47 = some 100 := by kernel_rfl
@[go_sem] theorem tAgg47 : tAgg Try.prog 47 = some true := by kernel_rfl
@[go_sem] theorem tElem45 : tElem Try.prog 45 = some 47 := by kernel_rfl
@[go_sem] theorem tBytes47 : tBytes Try.prog 47 = some 128 := by kernel_rfl
def zcheck : Check := ⟨0, zroot⟩
def zatt : Att := ⟨0, 0, zroot, zcheck, zcheck⟩
@[go_sem] theorem tZero47 : tZero Try.prog 47 = some zatt.av := by kernel_rfl
@[go_sem] theorem und45 : Try.prog.underlying 45 = some (.slice 47) := Try.underlying45

theorem far_pure (a : Att) : Pure Try.prog 53 [a.av] (.bool (decide (1099511627776 < a.slot))) := by
  refine pure_of_tr Try.func53 rfl (Nat.le_of_ble_eq_true rfl) rfl fun E hE => ?_
  unfold Att.av
  first | refine tr_seq_region (by rw [hE]; rfl) ?_ | (refine Tr.seq ?_; refine tr_seq_region (by rw [hE]; rfl) ?_)
  repeat (refine vc_op rfl ?_; simp only [go_sem, ↓Nat.reduceBEq, ↓Nat.reduceAdd, ↓Nat.reduceMul, ↓Nat.reduceEqDiff, ↓Nat.reducePow, ↓Nat.reduceLeDiff, ↓Nat.reduceLT, ↓Int.reduceLE, ↓Int.reduceLT, ↓reduceIte, ↓reduceCtorEq])
  refine vc_nil ?_
  first | refine tr_seq_region (by rw [hE]; rfl) ?_ | (refine Tr.seq ?_; refine tr_seq_region (by rw [hE]; rfl) ?_)
  repeat (refine vc_op rfl ?_; simp only [go_sem, ↓Nat.reduceBEq, ↓Nat.reduceAdd, ↓Nat.reduceMul, ↓Nat.reduceEqDiff, ↓Nat.reducePow, ↓Nat.reduceLeDiff, ↓Nat.reduceLT, ↓Int.reduceLE, ↓Int.reduceLT, ↓reduceIte, ↓reduceCtorEq])
  refine vc_nil ?_
  refine Tr.ret ?_
  simp only [go_sem, Try.f53]

theorem due1_pure (a : Att) (now : Int) : Pure Try.prog 55 [a.av, .ref (.int .u64 now)] (.bool (decide (a.slot < now))) := by
  refine pure_of_tr Try.func55 rfl (Nat.le_of_ble_eq_true rfl) rfl fun E hE => ?_
  unfold Att.av
  first | refine tr_seq_region (by rw [hE]; rfl) ?_ | (refine Tr.seq ?_; refine tr_seq_region (by rw [hE]; rfl) ?_)
  repeat (refine vc_op rfl ?_; simp only [go_sem, ↓Nat.reduceBEq, ↓Nat.reduceAdd, ↓Nat.reduceMul, ↓Nat.reduceEqDiff, ↓Nat.reducePow, ↓Nat.reduceLeDiff, ↓Nat.reduceLT, ↓Int.reduceLE, ↓Int.reduceLT, ↓reduceIte, ↓reduceCtorEq])
  refine vc_nil ?_
  first | refine tr_seq_region (by rw [hE]; rfl) ?_ | (refine Tr.seq ?_; refine tr_seq_region (by rw [hE]; rfl) ?_)
  repeat (refine vc_op rfl ?_; simp only [go_sem, ↓Nat.reduceBEq, ↓Nat.reduceAdd, ↓Nat.reduceMul, ↓Nat.reduceEqDiff, ↓Nat.reducePow, ↓Nat.reduceLeDiff, ↓Nat.reduceLT, ↓Int.reduceLE, ↓Int.reduceLT, ↓reduceIte, ↓reduceCtorEq])
  refine vc_nil ?_
  refine Tr.ret ?_
  simp only [go_sem, Try.f55]

theorem Check.eqb (a b : Check) : a.av.eqb b.av = decide (a = b) := by
  cases a; cases b
  simp only [Check.av, AV.eqb, AV.eqbL, int_beq, Check.mk.injEq, Bool.decide_and, Bool.and_true]
theorem Att.eqb (a b : Att) : a.av.eqb b.av = decide (a = b) := by
  have h := Check.eqb a.source b.source
  have k := Check.eqb a.target b.target
  cases a; cases b
  simp only at h k
  simp only [Att.av, AV.eqb, AV.eqbL, int_beq, h, k, Att.mk.injEq, Bool.decide_and, Bool.and_true]
@[go_sem] theorem eql47 (a b : Att) (K : AV → Prop) : binK Try.prog .eql 47 a.av b.av K = K (.bool (decide (a = b))) :=
  bin_eql_of (fun _ _ h => by cases h) (fun _ h => by cases h) (by kernel_rfl) (by kernel_rfl) (by show 3 ≤ 9999; omega) (by kernel_rfl) (Att.eqb a b) K
@[go_sem] theorem neq47 (a b : Att) (K : AV → Prop) : binK Try.prog .neq 47 a.av b.av K = K (.bool !(decide (a = b))) :=
  bin_neq_of (fun _ _ h => by cases h) (fun _ h => by cases h) (by kernel_rfl) (by kernel_rfl) (by show 3 ≤ 9999; omega) (by kernel_rfl) (Att.eqb a b) K

theorem same1_pure (a b : Att) : Pure Try.prog 61 [a.av, b.av] (.bool (decide (a = b))) := by
  refine pure_of_tr Try.func61 rfl (Nat.le_of_ble_eq_true rfl) rfl fun E hE => ?_
  first | refine tr_seq_region (by rw [hE]; rfl) ?_ | (refine Tr.seq ?_; refine tr_seq_region (by rw [hE]; rfl) ?_)
  repeat (refine vc_op rfl ?_; simp only [go_sem, ↓Nat.reduceBEq, ↓Nat.reduceAdd, ↓Nat.reduceMul, ↓Nat.reduceEqDiff, ↓Nat.reducePow, ↓Nat.reduceLeDiff, ↓Nat.reduceLT, ↓Int.reduceLE, ↓Int.reduceLT, ↓reduceIte, ↓reduceCtorEq])
  refine vc_nil ?_
  first | refine tr_seq_region (by rw [hE]; rfl) ?_ | (refine Tr.seq ?_; refine tr_seq_region (by rw [hE]; rfl) ?_)
  repeat (refine vc_op rfl ?_; simp only [go_sem, ↓Nat.reduceBEq, ↓Nat.reduceAdd, ↓Nat.reduceMul, ↓Nat.reduceEqDiff, ↓Nat.reducePow, ↓Nat.reduceLeDiff, ↓Nat.reduceLT, ↓Int.reduceLE, ↓Int.reduceLT, ↓reduceIte, ↓reduceCtorEq])
  refine vc_nil ?_
  refine Tr.ret ?_
  simp only [go_sem, Try.f61]

def partSt (l : List Att) (now : Int) (i : Nat) : S where
  fr := [(12, .int .i64 i), (11, .int .i64 l.length), (10, .sl (l.map Att.av) false), (7, .ms 1 100 ((l.take i).filter fun a => !decide (a.slot < now)).length), (6, .ms 0 100 ((l.take i).filter fun a => decide (a.slot < now)).length), (1, .fn (.func 55) [] [.ref (.int .u64 now)])]
  hp := [(0, .row 100 (((l.take i).filter fun a => decide (a.slot < now)).map Att.av)), (1, .row 100 (((l.take i).filter fun a => !decide (a.slot < now)).map Att.av))]
  nx := 2

theorem part_pure (l : List Att) (now : Int) (hl : l.length ≤ 100) : Pure Try.prog 54 [.sl (l.map Att.av) false, .fn (.func 55) [] [.ref (.int .u64 now)]]
    (.tup [.sl ((l.filter fun a => decide (a.slot < now)).map Att.av) false, .sl ((l.filter fun a => !decide (a.slot < now)).map Att.av) false]) := by
  refine pure_of_tr Try.func54 rfl (Nat.le_of_ble_eq_true rfl) rfl fun E hE => ?_
  first | refine tr_seq_region (by rw [hE]; rfl) ?_ | (refine Tr.seq ?_; refine tr_seq_region (by rw [hE]; rfl) ?_)
  repeat (refine vc_op rfl ?_; simp only [go_sem, ↓Nat.reduceBEq, ↓Nat.reduceAdd, ↓Nat.reduceMul, ↓Nat.reduceEqDiff, ↓Nat.reducePow, ↓Nat.reduceLeDiff, ↓Nat.reduceLT, ↓Int.reduceLE, ↓Int.reduceLT, ↓reduceIte, ↓reduceCtorEq])
  refine vc_nil ?_
  first | refine tr_seq_region (by rw [hE]; rfl) ?_ | (refine Tr.seq ?_; refine tr_seq_region (by rw [hE]; rfl) ?_)
  repeat (refine vc_op rfl ?_; simp only [go_sem, ↓Nat.reduceBEq, ↓Nat.reduceAdd, ↓Nat.reduceMul, ↓Nat.reduceEqDiff, ↓Nat.reducePow, ↓Nat.reduceLeDiff, ↓Nat.reduceLT, ↓Int.reduceLE, ↓Int.reduceLT, ↓reduceIte, ↓reduceCtorEq])
  refine vc_nil ?_
  refine Tr.seq ?_
  first | refine tr_seq_region (by rw [hE]; rfl) ?_ | (refine Tr.seq ?_; refine tr_seq_region (by rw [hE]; rfl) ?_)
  repeat (refine vc_op rfl ?_; simp only [go_sem, ↓Nat.reduceBEq, ↓Nat.reduceAdd, ↓Nat.reduceMul, ↓Nat.reduceEqDiff, ↓Nat.reducePow, ↓Nat.reduceLeDiff, ↓Nat.reduceLT, ↓Int.reduceLE, ↓Int.reduceLT, ↓reduceIte, ↓reduceCtorEq])
  refine vc_nil ?_
  refine Tr.block ?_
  refine Tr.loop (partSt l now) (fun i => i ≤ l.length) (fun i => l.length - i) 0 (Nat.zero_le _) ?_ ?_
  · refine (Wk.nil 6 100 rfl).trans ((Wk.nil 7 100 rfl).trans (wk_ren (fun | 0 => 112 | 1 => 113 | n => n) ?_ ?_ rfl rfl rfl))
    · simp only [List.length_map]
      repeat' (first | exact rfl | exact trivial | constructor)
    · repeat' (first | exact rfl | exact trivial | constructor)
  · intro i hi
    unfold partSt
    first | refine tr_seq_region (by rw [hE]; rfl) ?_ | (refine Tr.seq ?_; refine tr_seq_region (by rw [hE]; rfl) ?_)
    repeat (refine vc_op rfl ?_; simp only [go_sem, ↓Nat.reduceBEq, ↓Nat.reduceAdd, ↓Nat.reduceMul, ↓Nat.reduceEqDiff, ↓Nat.reducePow, ↓Nat.reduceLeDiff, ↓Nat.reduceLT, ↓Int.reduceLE, ↓Int.reduceLT, ↓reduceIte, ↓reduceCtorEq])
    refine vc_nil ?_
    refine Tr.seq (Tr.cond rfl (fun hb => ?_) (fun hb => ?_))
    · refine Tr.skip ?_
      have hlt : i < l.length := by have := of_decide_eq_true hb; omega
      have ha := nth_map_lt Att.av l i hlt
      generalize hla : l[i] = a at ha
      simp only [thenK]
      refine Tr.seq (Tr.block ?_)
      first | refine tr_seq_region (by rw [hE]; rfl) ?_ | (refine Tr.seq ?_; refine tr_seq_region (by rw [hE]; rfl) ?_)
      repeat (refine vc_op rfl ?_; simp only [ha, go_sem, ↓Nat.reduceBEq, ↓Nat.reduceAdd, ↓Nat.reduceMul, ↓Nat.reduceEqDiff, ↓Nat.reducePow, ↓Nat.reduceLeDiff, ↓Nat.reduceLT, ↓Int.reduceLE, ↓Int.reduceLT, ↓reduceIte, ↓reduceCtorEq])
      refine vc_nil ?_
      first | refine tr_seq_region (by rw [hE]; rfl) ?_ | (refine Tr.seq ?_; refine tr_seq_region (by rw [hE]; rfl) ?_)
      repeat (refine vc_op rfl ?_; simp only [go_sem, ↓Nat.reduceBEq, ↓Nat.reduceAdd, ↓Nat.reduceMul, ↓Nat.reduceEqDiff, ↓Nat.reducePow, ↓Nat.reduceLeDiff, ↓Nat.reduceLT, ↓Int.reduceLE, ↓Int.reduceLT, ↓reduceIte, ↓reduceCtorEq])
      refine call_fn rfl rfl rfl rfl (enters_of Try.func55 (by kernel_rfl) rfl) (due1_pure a now) rfl rfl rfl ?_
      simp only [go_sem, ↓Nat.reduceBEq, ↓Nat.reduceAdd, ↓Nat.reduceMul, ↓Nat.reduceEqDiff, ↓Nat.reducePow, ↓Nat.reduceLeDiff, ↓Nat.reduceLT, ↓Int.reduceLE, ↓Int.reduceLT, ↓reduceIte, ↓reduceCtorEq]
      refine vc_nil ?_
      have hf : ((l.take i).filter fun a => decide (a.slot < now)).length ≤ i := Nat.le_trans (List.length_filter_le _ _) (by simp; omega)
      have hg : ((l.take i).filter fun a => !decide (a.slot < now)).length ≤ i := Nat.le_trans (List.length_filter_le _ _) (by simp; omega)
      have hw := wrap_next (n := i) (by omega)
      have ht := take_next hlt hla
      refine Tr.cond rfl (fun hd => ?_) (fun hd => ?_)
      · refine tr_region (by rw [hE]; rfl) ?_
        repeat (refine vc_op rfl ?_; simp only [go_sem, ↓Nat.reduceBEq, ↓Nat.reduceAdd, ↓Nat.reduceMul, ↓Nat.reduceEqDiff, ↓Nat.reducePow, ↓Nat.reduceLeDiff, ↓Nat.reduceLT, ↓Int.reduceLE, ↓Int.reduceLT, ↓reduceIte, ↓reduceCtorEq])
        refine ⟨by omega, by omega, ?_⟩
        repeat (refine vc_op rfl ?_; simp only [go_sem, ↓Nat.reduceBEq, ↓Nat.reduceAdd, ↓Nat.reduceMul, ↓Nat.reduceEqDiff, ↓Nat.reducePow, ↓Nat.reduceLeDiff, ↓Nat.reduceLT, ↓Int.reduceLE, ↓Int.reduceLT, ↓reduceIte, ↓reduceCtorEq])
        refine vc_nil ?_
        simp only [blockK, thenK]
        refine tr_region (by rw [hE]; rfl) ?_
        repeat (refine vc_op rfl ?_; simp only [hw, go_sem, ↓Nat.reduceBEq, ↓Nat.reduceAdd, ↓Nat.reduceMul, ↓Nat.reduceEqDiff, ↓Nat.reducePow, ↓Nat.reduceLeDiff, ↓Nat.reduceLT, ↓Int.reduceLE, ↓Int.reduceLT, ↓reduceIte, ↓reduceCtorEq])
        refine vc_nil ?_
        have hA : (l.take (i + 1)).filter (fun a => decide (a.slot < now)) = (l.take i).filter (fun a => decide (a.slot < now)) ++ [a] := by
          rw [ht, List.filter_append]; simp [hd]
        have hB : (l.take (i + 1)).filter (fun a => !decide (a.slot < now)) = (l.take i).filter (fun a => !decide (a.slot < now)) := by
          rw [ht, List.filter_append]; simp [hd]
        refine ⟨i + 1, hlt, by omega, ?_⟩
        simp only [hA, hB, List.length_append, List.length_singleton, List.map_append]
        refine wk_ren (fun | 0 => 178 | n => n) ?_ ?_ rfl rfl rfl
        · repeat' (first | exact rfl | exact trivial | constructor)
        · repeat' (first | exact rfl | exact trivial | constructor)
      · refine tr_region (by rw [hE]; rfl) ?_
        repeat (refine vc_op rfl ?_; simp only [go_sem, ↓Nat.reduceBEq, ↓Nat.reduceAdd, ↓Nat.reduceMul, ↓Nat.reduceEqDiff, ↓Nat.reducePow, ↓Nat.reduceLeDiff, ↓Nat.reduceLT, ↓Int.reduceLE, ↓Int.reduceLT, ↓reduceIte, ↓reduceCtorEq])
        refine ⟨by omega, by omega, ?_⟩
        repeat (refine vc_op rfl ?_; simp only [go_sem, ↓Nat.reduceBEq, ↓Nat.reduceAdd, ↓Nat.reduceMul, ↓Nat.reduceEqDiff, ↓Nat.reducePow, ↓Nat.reduceLeDiff, ↓Nat.reduceLT, ↓Int.reduceLE, ↓Int.reduceLT, ↓reduceIte, ↓reduceCtorEq])
        refine vc_nil ?_
        simp only [blockK, thenK]
        refine tr_region (by rw [hE]; rfl) ?_
        repeat (refine vc_op rfl ?_; simp only [hw, go_sem, ↓Nat.reduceBEq, ↓Nat.reduceAdd, ↓Nat.reduceMul, ↓Nat.reduceEqDiff, ↓Nat.reducePow, ↓Nat.reduceLeDiff, ↓Nat.reduceLT, ↓Int.reduceLE, ↓Int.reduceLT, ↓reduceIte, ↓reduceCtorEq])
        refine vc_nil ?_
        have hA : (l.take (i + 1)).filter (fun a => decide (a.slot < now)) = (l.take i).filter (fun a => decide (a.slot < now)) := by
          rw [ht, List.filter_append]; simp [hd]
        have hB : (l.take (i + 1)).filter (fun a => !decide (a.slot < now)) = (l.take i).filter (fun a => !decide (a.slot < now)) ++ [a] := by
          rw [ht, List.filter_append]; simp [hd]
        refine ⟨i + 1, hlt, by omega, ?_⟩
        simp only [hA, hB, List.length_append, List.length_singleton, List.map_append]
        refine wk_ren (fun | 1 => 178 | n => n) ?_ ?_ rfl rfl rfl
        · repeat' (first | exact rfl | exact trivial | constructor)
        · repeat' (first | exact rfl | exact trivial | constructor)
    · refine Tr.exit ?_
      simp only [blockK, thenK, ↓reduceIte]
      have hil : i = l.length := by
        have := of_decide_eq_false hb
        omega
      subst hil
      rw [List.take_length]
      first | refine tr_seq_region (by rw [hE]; rfl) ?_ | (refine Tr.seq ?_; refine tr_seq_region (by rw [hE]; rfl) ?_)
      repeat (refine vc_op rfl ?_; simp only [go_sem, ↓Nat.reduceBEq, ↓Nat.reduceAdd, ↓Nat.reduceMul, ↓Nat.reduceEqDiff, ↓Nat.reducePow, ↓Nat.reduceLeDiff, ↓Nat.reduceLT, ↓Int.reduceLE, ↓Int.reduceLT, ↓reduceIte, ↓reduceCtorEq])
      refine vc_nil ?_
      refine Tr.ret ?_
      simp only [Try.f54, go_sem, ↓Nat.reduceBEq, ↓Nat.reduceAdd, ↓Nat.reduceMul, ↓Nat.reduceEqDiff, ↓Nat.reducePow, ↓Nat.reduceLeDiff, ↓Nat.reduceLT, ↓Int.reduceLE, ↓Int.reduceLT, ↓reduceIte, ↓reduceCtorEq]
