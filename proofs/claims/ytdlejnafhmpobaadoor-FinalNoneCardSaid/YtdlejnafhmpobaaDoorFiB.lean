/- The table: which bit is the last one. -/
import Derived.Test.YtdlejnafhmpobaaDoorFiA
set_option linter.unusedSimpArgs false
set_option maxRecDepth 10000
namespace Go.Proofs.YtdlejnafhmpobaaDoor
open Go Go.Ab

@[go_sem] theorem tArr125 : tArr Tryd.prog 125 = some (64, 5) := by kernel_rfl

def tzI (m : Nat) : Int := (IntKind.u64.wrap (bitsI BinOp.and IntKind.u64 (m : Int) (IntKind.u64.wrap (0 - (m : Int))) * 285870213051353865)).fdiv (2 ^ min (Int.toNat 58) 64)
theorem tz_all : (List.range 256).all (fun m => decide (m = 0) || (decide (0 ≤ tzI m) && decide (tabN[(tzI m).toNat]? = some (tz m : Int)) && decide (tz m < 8))) = true := by decide +kernel
theorem tz_idx {m : Nat} (h0 : 0 < m) (h1 : m < 256) : nth (tabN.map fun n => AV.int .u8 n) (tzI m) = some (.int .u8 (tz m)) ∧ tz m < 8 := by
  have h := List.all_eq_true.1 tz_all m (List.mem_range.2 h1)
  have hm : decide (m = 0) = false := decide_eq_false (by omega)
  simp only [hm, Bool.false_or, Bool.and_eq_true, decide_eq_true_eq] at h
  obtain ⟨⟨h2, h3⟩, h4⟩ := h
  refine ⟨?_, h4⟩
  rw [nth, if_pos h2, List.getElem?_map, h3]
  rfl

theorem tz_T (m : Nat) (h0 : 0 < m) (h1 : m < 256) : PureT Tryd.prog 0 tabV 92 [.int .u64 m] (.int .i64 (tz m)) := by
  have hn := (tz_idx h0 h1).1
  have h8 := (tz_idx h0 h1).2
  have ew : IntKind.i64.wrap (tz m : Int) = tz m := wrap_small (by omega)
  unfold tzI at hn
  obtain ⟨p, hp⟩ : ∃ p, IntKind.u64.wrap (bitsI BinOp.and IntKind.u64 (m : Int) (IntKind.u64.wrap (0 - (m : Int))) * 285870213051353865) = p := ⟨_, rfl⟩
  rw [hp] at hn
  obtain ⟨q, hq⟩ : ∃ q, p.fdiv (2 ^ min (Int.toNat 58) 64) = q := ⟨_, rfl⟩
  rw [hq] at hn
  have e0 : ((m : Int) == 0) = false := by rw [int_beq]; exact decide_eq_false (by omega)
  refine eff_of_tr Tryd.func92 rfl (Nat.le_of_ble_eq_true rfl) (by first | rfl | (simp only [AV.idsB, AV.idsBL, Bool.and_true, Bool.true_and] <;> rfl)) fun E hE hP => ?_
  first | refine tr_seq_region (by rw [hE]; rfl) ?_ | (refine Tr.seq ?_; refine tr_seq_region (by rw [hE]; rfl) ?_)
  repeat (refine vc_op rfl ?_; simp only [go_sem, ↓Nat.reduceBEq, ↓Nat.reduceAdd, ↓Nat.reduceSub, ↓Nat.reduceMul, ↓Nat.reduceEqDiff, ↓Nat.reducePow, ↓Nat.reduceLeDiff, ↓Nat.reduceLT, ↓Int.reduceLE, ↓Int.reduceLT, ↓reduceIte, ↓reduceCtorEq])
  refine vc_nil ?_
  first | apply tr_m (by rw [hE]; rfl) | (refine Tr.seq ?_; apply tr_m (by rw [hE]; rfl))
  intro Q hQ
  simp only [List.toList_toArray, List.map_cons, List.map_nil, mo, guardSlot, Option.map_some, Option.map_none, List.getElem?_toArray, List.getElem?_cons_succ, List.getElem?_cons_zero, Option.bind_some]
  iterate 2 ((refine vm_op ?_); intro r hr; simp only [e0, go_sem, ↓Nat.reduceBEq, ↓Nat.reduceAdd, ↓Nat.reduceSub, ↓Nat.reduceMul, ↓Nat.reduceEqDiff, ↓Nat.reducePow, ↓Nat.reduceLeDiff, ↓Nat.reduceLT, ↓Int.reduceLE, ↓Int.reduceLT, ↓reduceIte, ↓reduceCtorEq]; subst hr)
  exact hQ
  first | refine Tr.cond rfl (fun h => by cases h) (fun _ => ?_) | refine Tr.seq (Tr.cond rfl (fun h => by cases h) (fun _ => ?_))
  refine Tr.skip ?_
  try simp only [blockK, thenK, ↓reduceIte]
  first | apply tr_m (by rw [hE]; rfl) | (refine Tr.seq ?_; apply tr_m (by rw [hE]; rfl))
  intro Q hQ
  simp only [List.toList_toArray, List.map_cons, List.map_nil, mo, guardSlot, Option.map_some, Option.map_none, List.getElem?_toArray, List.getElem?_cons_succ, List.getElem?_cons_zero, Option.bind_some]
  iterate 5 ((refine vm_op ?_); intro r hr; simp only [hp, go_sem, ↓Nat.reduceBEq, ↓Nat.reduceAdd, ↓Nat.reduceSub, ↓Nat.reduceMul, ↓Nat.reduceEqDiff, ↓Nat.reducePow, ↓Nat.reduceLeDiff, ↓Nat.reduceLT, ↓Int.reduceLE, ↓Int.reduceLT, ↓reduceIte, ↓reduceCtorEq]; subst hr)
  (refine vm_op ?_); intro r hr; simp only [hq, go_sem, ↓Nat.reduceBEq, ↓Nat.reduceAdd, ↓Nat.reduceSub, ↓Nat.reduceMul, ↓Nat.reduceEqDiff, ↓Nat.reducePow, ↓Nat.reduceLeDiff, ↓Nat.reduceLT, ↓Int.reduceLE, ↓Int.reduceLT, ↓reduceIte, ↓reduceCtorEq]; subst hr
  (refine vm_op ?_); intro r hr; simp only [tabV, hn, ew, go_sem, ↓Nat.reduceBEq, ↓Nat.reduceAdd, ↓Nat.reduceSub, ↓Nat.reduceMul, ↓Nat.reduceEqDiff, ↓Nat.reducePow, ↓Nat.reduceLeDiff, ↓Nat.reduceLT, ↓Int.reduceLE, ↓Int.reduceLT, ↓reduceIte, ↓reduceCtorEq]
  refine ⟨rfl, fun z hz => ?_, ?_⟩
  · obtain ⟨n, _, rfl⟩ := List.mem_map.1 hz
    rfl
  subst hr
  iterate 3 ((refine vm_op ?_); intro r hr; simp only [ew, go_sem, ↓Nat.reduceBEq, ↓Nat.reduceAdd, ↓Nat.reduceSub, ↓Nat.reduceMul, ↓Nat.reduceEqDiff, ↓Nat.reducePow, ↓Nat.reduceLeDiff, ↓Nat.reduceLT, ↓Int.reduceLE, ↓Int.reduceLT, ↓reduceIte, ↓reduceCtorEq]; subst hr)
  exact hQ
  refine Tr.ret ?_
  simp only [Tryd.f92, go_sem, ↓Nat.reduceBEq, ↓Nat.reduceAdd, ↓Nat.reduceSub, ↓Nat.reduceMul, ↓Nat.reduceEqDiff, ↓Nat.reducePow, ↓Nat.reduceLeDiff, ↓Nat.reduceLT, ↓Int.reduceLE, ↓Int.reduceLT, ↓reduceIte, ↓reduceCtorEq]
  exact ⟨fun n => n, ⟨⟨rfl, rfl, rfl⟩, trivial⟩, rfl, fun _ _ => rfl⟩
