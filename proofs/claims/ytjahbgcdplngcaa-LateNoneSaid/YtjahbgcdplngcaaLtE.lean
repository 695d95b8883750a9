/- The example of layer 13. -/
import Derived.Test.YtjahbgcdplngcaaLtD
set_option linter.unusedSimpArgs false
namespace Go.Proofs.Ytjahbgcdplngcaa
open Go Go.Ab

def slotAtt (n : Int) : Att := ⟨0, n, zroot, zcheck, zcheck⟩
@[go_sem] theorem build47 (n : Int) (K : AV → Prop) : buildK Try.prog 47 [(1, .int .u64 n)] K = K (slotAtt n).av :=
  build_struct Try.underlying47 tZero47 rfl (by kernel_rfl) rfl K


theorem awake_walk (x y : Att) (hx : slotAtt 3 = x) (hy : slotAtt 5 = y) (hs3 : x.slot = 3) (hL : putL [x] y = [x, y]) (hE0 : putE [x] y = 0) (hD : due 4 [x, y] = [x]) (hR : rest 4 [x, y] = [y]) (hN : nextA [x, y] = (3, true)) (hM : mayB [x, y] = true) : Pure Try.prog 28 [] (.bool true) := by
  refine pure_of_tr Try.func28 rfl (Nat.le_of_ble_eq_true rfl) rfl fun E hE => ?_
  first | refine tr_seq_region (by rw [hE]; rfl) ?_ | (refine Tr.seq ?_; refine tr_seq_region (by rw [hE]; rfl) ?_)
  repeat (refine vc_op rfl ?_; simp only [go_sem, ↓Nat.reduceBEq, ↓Nat.reduceAdd, ↓Nat.reduceMul, ↓Nat.reduceEqDiff, ↓Nat.reducePow, ↓Nat.reduceLeDiff, ↓Nat.reduceLT, ↓Int.reduceLE, ↓Int.reduceLT, ↓reduceIte, ↓reduceCtorEq])
  refine vc_nil ?_
  first | refine tr_seq_region (by rw [hE]; rfl) ?_ | (refine Tr.seq ?_; refine tr_seq_region (by rw [hE]; rfl) ?_)
  repeat (refine vc_op rfl ?_; simp only [hx, hy, go_sem, ↓Nat.reduceBEq, ↓Nat.reduceAdd, ↓Nat.reduceMul, ↓Nat.reduceEqDiff, ↓Nat.reducePow, ↓Nat.reduceLeDiff, ↓Nat.reduceLT, ↓Int.reduceLE, ↓Int.reduceLT, ↓reduceIte, ↓reduceCtorEq])
  refine call_fn rfl rfl rfl rfl (enters_of Try.func29 (by kernel_rfl) rfl) (Put_pure [x] y (by show 1 ≤ 100; omega)) rfl rfl rfl ?_
  simp only [go_sem, ↓Nat.reduceBEq, ↓Nat.reduceAdd, ↓Nat.reduceMul, ↓Nat.reduceEqDiff, ↓Nat.reducePow, ↓Nat.reduceLeDiff, ↓Nat.reduceLT, ↓Int.reduceLE, ↓Int.reduceLT, ↓reduceIte, ↓reduceCtorEq]
  repeat (refine vc_op rfl ?_; simp only [hL, hE0, go_sem, ↓Nat.reduceBEq, ↓Nat.reduceAdd, ↓Nat.reduceMul, ↓Nat.reduceEqDiff, ↓Nat.reducePow, ↓Nat.reduceLeDiff, ↓Nat.reduceLT, ↓Int.reduceLE, ↓Int.reduceLT, ↓reduceIte, ↓reduceCtorEq])
  refine vc_nil ?_
  first | refine tr_seq_region (by rw [hE]; rfl) ?_ | (refine Tr.seq ?_; refine tr_seq_region (by rw [hE]; rfl) ?_)
  repeat (refine vc_op rfl ?_; simp only [go_sem, ↓Nat.reduceBEq, ↓Nat.reduceAdd, ↓Nat.reduceMul, ↓Nat.reduceEqDiff, ↓Nat.reducePow, ↓Nat.reduceLeDiff, ↓Nat.reduceLT, ↓Int.reduceLE, ↓Int.reduceLT, ↓reduceIte, ↓reduceCtorEq])
  refine call_fn rfl rfl rfl rfl (enters_of Try.func31 (by kernel_rfl) rfl) (Due_pure [x, y] 4 (by show 2 ≤ 100; omega)) rfl rfl rfl ?_
  simp only [go_sem, ↓Nat.reduceBEq, ↓Nat.reduceAdd, ↓Nat.reduceMul, ↓Nat.reduceEqDiff, ↓Nat.reducePow, ↓Nat.reduceLeDiff, ↓Nat.reduceLT, ↓Int.reduceLE, ↓Int.reduceLT, ↓reduceIte, ↓reduceCtorEq]
  repeat (refine vc_op rfl ?_; simp only [hD, hR, go_sem, ↓Nat.reduceBEq, ↓Nat.reduceAdd, ↓Nat.reduceMul, ↓Nat.reduceEqDiff, ↓Nat.reducePow, ↓Nat.reduceLeDiff, ↓Nat.reduceLT, ↓Int.reduceLE, ↓Int.reduceLT, ↓reduceIte, ↓reduceCtorEq])
  refine vc_nil ?_
  first | refine tr_seq_region (by rw [hE]; rfl) ?_ | (refine Tr.seq ?_; refine tr_seq_region (by rw [hE]; rfl) ?_)
  repeat (refine vc_op rfl ?_; simp only [go_sem, ↓Nat.reduceBEq, ↓Nat.reduceAdd, ↓Nat.reduceMul, ↓Nat.reduceEqDiff, ↓Nat.reducePow, ↓Nat.reduceLeDiff, ↓Nat.reduceLT, ↓Int.reduceLE, ↓Int.reduceLT, ↓reduceIte, ↓reduceCtorEq])
  refine call_fn rfl rfl rfl rfl (enters_of Try.func33 (by kernel_rfl) rfl) (Next_pure [x, y] (by show 2 ≤ 100; omega)) rfl rfl rfl ?_
  simp only [go_sem, ↓Nat.reduceBEq, ↓Nat.reduceAdd, ↓Nat.reduceMul, ↓Nat.reduceEqDiff, ↓Nat.reducePow, ↓Nat.reduceLeDiff, ↓Nat.reduceLT, ↓Int.reduceLE, ↓Int.reduceLT, ↓reduceIte, ↓reduceCtorEq]
  repeat (refine vc_op rfl ?_; simp only [hN, go_sem, ↓Nat.reduceBEq, ↓Nat.reduceAdd, ↓Nat.reduceMul, ↓Nat.reduceEqDiff, ↓Nat.reducePow, ↓Nat.reduceLeDiff, ↓Nat.reduceLT, ↓Int.reduceLE, ↓Int.reduceLT, ↓reduceIte, ↓reduceCtorEq])
  refine vc_nil ?_
  have hn : nth [x.av] 0 = some x.av := rfl
  first | apply tr_m (by rw [hE]; rfl) | (refine Tr.seq ?_; apply tr_m (by rw [hE]; rfl))
  intro Q hQ
  simp only [List.toList_toArray, List.map_cons, List.map_nil, mo, guardSlot, Option.map_some, Option.map_none, List.getElem?_toArray, List.getElem?_cons_succ, List.getElem?_cons_zero, Option.bind_some]
  simp only [atts, List.map_cons, List.map_nil]
  refine vm_op ?_; intro r hr; simp only [hn, hs3, go_sem, ↓Nat.reduceBEq, ↓Nat.reduceAdd, ↓Nat.reduceMul, ↓Nat.reduceEqDiff, ↓Nat.reducePow, ↓Nat.reduceLeDiff, ↓Nat.reduceLT, ↓Int.reduceLE, ↓Int.reduceLT, ↓reduceIte, ↓reduceCtorEq]; subst hr
  refine vm_op ?_; intro r hr; simp only [hn, hs3, go_sem, ↓Nat.reduceBEq, ↓Nat.reduceAdd, ↓Nat.reduceMul, ↓Nat.reduceEqDiff, ↓Nat.reducePow, ↓Nat.reduceLeDiff, ↓Nat.reduceLT, ↓Int.reduceLE, ↓Int.reduceLT, ↓reduceIte, ↓reduceCtorEq]; subst hr
  refine vm_op ?_; intro r hr; simp only [hn, hs3, go_sem, ↓Nat.reduceBEq, ↓Nat.reduceAdd, ↓Nat.reduceMul, ↓Nat.reduceEqDiff, ↓Nat.reducePow, ↓Nat.reduceLeDiff, ↓Nat.reduceLT, ↓Int.reduceLE, ↓Int.reduceLT, ↓reduceIte, ↓reduceCtorEq]; subst hr
  refine vm_if rfl ?_; intro r hr; simp only [hn, hs3, go_sem, ↓Nat.reduceBEq, ↓Nat.reduceAdd, ↓Nat.reduceMul, ↓Nat.reduceEqDiff, ↓Nat.reducePow, ↓Nat.reduceLeDiff, ↓Nat.reduceLT, ↓Int.reduceLE, ↓Int.reduceLT, ↓reduceIte, ↓reduceCtorEq]; subst hr
  refine vm_if rfl ?_; intro r hr; simp only [hn, hs3, go_sem, ↓Nat.reduceBEq, ↓Nat.reduceAdd, ↓Nat.reduceMul, ↓Nat.reduceEqDiff, ↓Nat.reducePow, ↓Nat.reduceLeDiff, ↓Nat.reduceLT, ↓Int.reduceLE, ↓Int.reduceLT, ↓reduceIte, ↓reduceCtorEq]; subst hr
  refine vm_if rfl ?_; intro r hr; simp only [hn, hs3, go_sem, ↓Nat.reduceBEq, ↓Nat.reduceAdd, ↓Nat.reduceMul, ↓Nat.reduceEqDiff, ↓Nat.reducePow, ↓Nat.reduceLeDiff, ↓Nat.reduceLT, ↓Int.reduceLE, ↓Int.reduceLT, ↓reduceIte, ↓reduceCtorEq]; subst hr
  refine vm_op ?_; intro r hr; simp only [hn, hs3, go_sem, ↓Nat.reduceBEq, ↓Nat.reduceAdd, ↓Nat.reduceMul, ↓Nat.reduceEqDiff, ↓Nat.reducePow, ↓Nat.reduceLeDiff, ↓Nat.reduceLT, ↓Int.reduceLE, ↓Int.reduceLT, ↓reduceIte, ↓reduceCtorEq]; subst hr
  refine vm_op ?_; intro r hr; simp only [hn, hs3, go_sem, ↓Nat.reduceBEq, ↓Nat.reduceAdd, ↓Nat.reduceMul, ↓Nat.reduceEqDiff, ↓Nat.reducePow, ↓Nat.reduceLeDiff, ↓Nat.reduceLT, ↓Int.reduceLE, ↓Int.reduceLT, ↓reduceIte, ↓reduceCtorEq]; subst hr
  refine vm_if rfl ?_; intro r hr; simp only [hn, hs3, go_sem, ↓Nat.reduceBEq, ↓Nat.reduceAdd, ↓Nat.reduceMul, ↓Nat.reduceEqDiff, ↓Nat.reducePow, ↓Nat.reduceLeDiff, ↓Nat.reduceLT, ↓Int.reduceLE, ↓Int.reduceLT, ↓reduceIte, ↓reduceCtorEq]; subst hr
  refine vm_if rfl ?_; intro r hr; simp only [hn, hs3, go_sem, ↓Nat.reduceBEq, ↓Nat.reduceAdd, ↓Nat.reduceMul, ↓Nat.reduceEqDiff, ↓Nat.reducePow, ↓Nat.reduceLeDiff, ↓Nat.reduceLT, ↓Int.reduceLE, ↓Int.reduceLT, ↓reduceIte, ↓reduceCtorEq]; subst hr
  refine vm_if rfl ?_; intro r hr; simp only [hn, hs3, go_sem, ↓Nat.reduceBEq, ↓Nat.reduceAdd, ↓Nat.reduceMul, ↓Nat.reduceEqDiff, ↓Nat.reducePow, ↓Nat.reduceLeDiff, ↓Nat.reduceLT, ↓Int.reduceLE, ↓Int.reduceLT, ↓reduceIte, ↓reduceCtorEq]; subst hr
  refine vm_if rfl ?_; intro r hr; simp only [hn, hs3, go_sem, ↓Nat.reduceBEq, ↓Nat.reduceAdd, ↓Nat.reduceMul, ↓Nat.reduceEqDiff, ↓Nat.reducePow, ↓Nat.reduceLeDiff, ↓Nat.reduceLT, ↓Int.reduceLE, ↓Int.reduceLT, ↓reduceIte, ↓reduceCtorEq]; subst hr
  refine vm_if rfl ?_; intro r hr; simp only [hn, hs3, go_sem, ↓Nat.reduceBEq, ↓Nat.reduceAdd, ↓Nat.reduceMul, ↓Nat.reduceEqDiff, ↓Nat.reducePow, ↓Nat.reduceLeDiff, ↓Nat.reduceLT, ↓Int.reduceLE, ↓Int.reduceLT, ↓reduceIte, ↓reduceCtorEq]; subst hr
  refine vm_op ?_; intro r hr; simp only [hn, hs3, go_sem, ↓Nat.reduceBEq, ↓Nat.reduceAdd, ↓Nat.reduceMul, ↓Nat.reduceEqDiff, ↓Nat.reducePow, ↓Nat.reduceLeDiff, ↓Nat.reduceLT, ↓Int.reduceLE, ↓Int.reduceLT, ↓reduceIte, ↓reduceCtorEq]; subst hr
  refine vm_op ?_; intro r hr; simp only [hn, hs3, go_sem, ↓Nat.reduceBEq, ↓Nat.reduceAdd, ↓Nat.reduceMul, ↓Nat.reduceEqDiff, ↓Nat.reducePow, ↓Nat.reduceLeDiff, ↓Nat.reduceLT, ↓Int.reduceLE, ↓Int.reduceLT, ↓reduceIte, ↓reduceCtorEq]; subst hr
  refine vm_if rfl ?_; intro r hr; simp only [hn, hs3, go_sem, ↓Nat.reduceBEq, ↓Nat.reduceAdd, ↓Nat.reduceMul, ↓Nat.reduceEqDiff, ↓Nat.reducePow, ↓Nat.reduceLeDiff, ↓Nat.reduceLT, ↓Int.reduceLE, ↓Int.reduceLT, ↓reduceIte, ↓reduceCtorEq]; subst hr
  refine vm_if rfl ?_; intro r hr; simp only [hn, hs3, go_sem, ↓Nat.reduceBEq, ↓Nat.reduceAdd, ↓Nat.reduceMul, ↓Nat.reduceEqDiff, ↓Nat.reducePow, ↓Nat.reduceLeDiff, ↓Nat.reduceLT, ↓Int.reduceLE, ↓Int.reduceLT, ↓reduceIte, ↓reduceCtorEq]; subst hr
  refine vm_if rfl ?_; intro r hr; simp only [hn, hs3, go_sem, ↓Nat.reduceBEq, ↓Nat.reduceAdd, ↓Nat.reduceMul, ↓Nat.reduceEqDiff, ↓Nat.reducePow, ↓Nat.reduceLeDiff, ↓Nat.reduceLT, ↓Int.reduceLE, ↓Int.reduceLT, ↓reduceIte, ↓reduceCtorEq]; subst hr
  refine vm_op ?_; intro r hr; simp only [hn, hs3, go_sem, ↓Nat.reduceBEq, ↓Nat.reduceAdd, ↓Nat.reduceMul, ↓Nat.reduceEqDiff, ↓Nat.reducePow, ↓Nat.reduceLeDiff, ↓Nat.reduceLT, ↓Int.reduceLE, ↓Int.reduceLT, ↓reduceIte, ↓reduceCtorEq]; subst hr
  refine vm_op ?_; intro r hr; simp only [hn, hs3, go_sem, ↓Nat.reduceBEq, ↓Nat.reduceAdd, ↓Nat.reduceMul, ↓Nat.reduceEqDiff, ↓Nat.reducePow, ↓Nat.reduceLeDiff, ↓Nat.reduceLT, ↓Int.reduceLE, ↓Int.reduceLT, ↓reduceIte, ↓reduceCtorEq]; subst hr
  refine vm_if rfl ?_; intro r hr; simp only [hn, hs3, go_sem, ↓Nat.reduceBEq, ↓Nat.reduceAdd, ↓Nat.reduceMul, ↓Nat.reduceEqDiff, ↓Nat.reducePow, ↓Nat.reduceLeDiff, ↓Nat.reduceLT, ↓Int.reduceLE, ↓Int.reduceLT, ↓reduceIte, ↓reduceCtorEq]; subst hr
  refine vm_op ?_; intro r hr; simp only [hn, hs3, go_sem, ↓Nat.reduceBEq, ↓Nat.reduceAdd, ↓Nat.reduceMul, ↓Nat.reduceEqDiff, ↓Nat.reducePow, ↓Nat.reduceLeDiff, ↓Nat.reduceLT, ↓Int.reduceLE, ↓Int.reduceLT, ↓reduceIte, ↓reduceCtorEq]; subst hr
  refine vm_op ?_; intro r hr; simp only [hn, hs3, go_sem, ↓Nat.reduceBEq, ↓Nat.reduceAdd, ↓Nat.reduceMul, ↓Nat.reduceEqDiff, ↓Nat.reducePow, ↓Nat.reduceLeDiff, ↓Nat.reduceLT, ↓Int.reduceLE, ↓Int.reduceLT, ↓reduceIte, ↓reduceCtorEq]; subst hr
  refine vm_if rfl ?_; intro r hr; simp only [hn, hs3, go_sem, ↓Nat.reduceBEq, ↓Nat.reduceAdd, ↓Nat.reduceMul, ↓Nat.reduceEqDiff, ↓Nat.reducePow, ↓Nat.reduceLeDiff, ↓Nat.reduceLT, ↓Int.reduceLE, ↓Int.reduceLT, ↓reduceIte, ↓reduceCtorEq]; subst hr
  refine vm_if rfl ?_; intro r hr; simp only [hn, hs3, go_sem, ↓Nat.reduceBEq, ↓Nat.reduceAdd, ↓Nat.reduceMul, ↓Nat.reduceEqDiff, ↓Nat.reducePow, ↓Nat.reduceLeDiff, ↓Nat.reduceLT, ↓Int.reduceLE, ↓Int.reduceLT, ↓reduceIte, ↓reduceCtorEq]; subst hr
  refine vm_op ?_; intro r hr; simp only [hn, hs3, go_sem, ↓Nat.reduceBEq, ↓Nat.reduceAdd, ↓Nat.reduceMul, ↓Nat.reduceEqDiff, ↓Nat.reducePow, ↓Nat.reduceLeDiff, ↓Nat.reduceLT, ↓Int.reduceLE, ↓Int.reduceLT, ↓reduceIte, ↓reduceCtorEq]; subst hr
  refine vm_op ?_; intro r hr; simp only [hn, hs3, go_sem, ↓Nat.reduceBEq, ↓Nat.reduceAdd, ↓Nat.reduceMul, ↓Nat.reduceEqDiff, ↓Nat.reducePow, ↓Nat.reduceLeDiff, ↓Nat.reduceLT, ↓Int.reduceLE, ↓Int.reduceLT, ↓reduceIte, ↓reduceCtorEq]; subst hr
  refine vm_if rfl ?_; intro r hr; simp only [hn, hs3, go_sem, ↓Nat.reduceBEq, ↓Nat.reduceAdd, ↓Nat.reduceMul, ↓Nat.reduceEqDiff, ↓Nat.reducePow, ↓Nat.reduceLeDiff, ↓Nat.reduceLT, ↓Int.reduceLE, ↓Int.reduceLT, ↓reduceIte, ↓reduceCtorEq]; subst hr
  refine vm_if rfl ?_; intro r hr; simp only [hn, hs3, go_sem, ↓Nat.reduceBEq, ↓Nat.reduceAdd, ↓Nat.reduceMul, ↓Nat.reduceEqDiff, ↓Nat.reducePow, ↓Nat.reduceLeDiff, ↓Nat.reduceLT, ↓Int.reduceLE, ↓Int.reduceLT, ↓reduceIte, ↓reduceCtorEq]
  refine call_fn rfl rfl rfl rfl (enters_of Try.func37 (by kernel_rfl) rfl) (May_pure [x, y]) rfl rfl rfl ?_
  simp only [go_sem, ↓Nat.reduceBEq, ↓Nat.reduceAdd, ↓Nat.reduceMul, ↓Nat.reduceEqDiff, ↓Nat.reducePow, ↓Nat.reduceLeDiff, ↓Nat.reduceLT, ↓Int.reduceLE, ↓Int.reduceLT, ↓reduceIte, ↓reduceCtorEq]
  rw [hM]; subst hr
  refine vm_op ?_; intro r hr; simp only [hn, hs3, go_sem, ↓Nat.reduceBEq, ↓Nat.reduceAdd, ↓Nat.reduceMul, ↓Nat.reduceEqDiff, ↓Nat.reducePow, ↓Nat.reduceLeDiff, ↓Nat.reduceLT, ↓Int.reduceLE, ↓Int.reduceLT, ↓reduceIte, ↓reduceCtorEq]; subst hr
  refine vm_op ?_; intro r hr; simp only [hn, hs3, go_sem, ↓Nat.reduceBEq, ↓Nat.reduceAdd, ↓Nat.reduceMul, ↓Nat.reduceEqDiff, ↓Nat.reducePow, ↓Nat.reduceLeDiff, ↓Nat.reduceLT, ↓Int.reduceLE, ↓Int.reduceLT, ↓reduceIte, ↓reduceCtorEq]; subst hr
  refine vm_if rfl ?_; intro r hr; simp only [hn, hs3, go_sem, ↓Nat.reduceBEq, ↓Nat.reduceAdd, ↓Nat.reduceMul, ↓Nat.reduceEqDiff, ↓Nat.reducePow, ↓Nat.reduceLeDiff, ↓Nat.reduceLT, ↓Int.reduceLE, ↓Int.reduceLT, ↓reduceIte, ↓reduceCtorEq]; subst hr
  refine vm_if rfl ?_; intro r hr; simp only [hn, hs3, go_sem, ↓Nat.reduceBEq, ↓Nat.reduceAdd, ↓Nat.reduceMul, ↓Nat.reduceEqDiff, ↓Nat.reducePow, ↓Nat.reduceLeDiff, ↓Nat.reduceLT, ↓Int.reduceLE, ↓Int.reduceLT, ↓reduceIte, ↓reduceCtorEq]; subst hr
  refine vm_if rfl ?_; intro r hr; simp only [hn, hs3, go_sem, ↓Nat.reduceBEq, ↓Nat.reduceAdd, ↓Nat.reduceMul, ↓Nat.reduceEqDiff, ↓Nat.reducePow, ↓Nat.reduceLeDiff, ↓Nat.reduceLT, ↓Int.reduceLE, ↓Int.reduceLT, ↓reduceIte, ↓reduceCtorEq]
  refine call_fn rfl rfl rfl rfl (enters_of Try.func38 (by kernel_rfl) rfl) (Same_pure [x, y] [x, y] (by show 2 ≤ 100; omega)) rfl rfl rfl ?_
  simp only [go_sem, ↓Nat.reduceBEq, ↓Nat.reduceAdd, ↓Nat.reduceMul, ↓Nat.reduceEqDiff, ↓Nat.reducePow, ↓Nat.reduceLeDiff, ↓Nat.reduceLT, ↓Int.reduceLE, ↓Int.reduceLT, ↓reduceIte, ↓reduceCtorEq]
  subst hr
  refine vm_op ?_; intro r hr; simp only [hn, hs3, go_sem, ↓Nat.reduceBEq, ↓Nat.reduceAdd, ↓Nat.reduceMul, ↓Nat.reduceEqDiff, ↓Nat.reducePow, ↓Nat.reduceLeDiff, ↓Nat.reduceLT, ↓Int.reduceLE, ↓Int.reduceLT, ↓reduceIte, ↓reduceCtorEq]; subst hr
  refine vm_op ?_; intro r hr; simp only [hn, hs3, go_sem, ↓Nat.reduceBEq, ↓Nat.reduceAdd, ↓Nat.reduceMul, ↓Nat.reduceEqDiff, ↓Nat.reducePow, ↓Nat.reduceLeDiff, ↓Nat.reduceLT, ↓Int.reduceLE, ↓Int.reduceLT, ↓reduceIte, ↓reduceCtorEq]; subst hr
  exact hQ
  refine Tr.ret ?_
  simp only [Try.f28, go_sem, ↓Nat.reduceBEq, ↓Nat.reduceAdd, ↓Nat.reduceMul, ↓Nat.reduceEqDiff, ↓Nat.reducePow, ↓Nat.reduceLeDiff, ↓Nat.reduceLT, ↓Int.reduceLE, ↓Int.reduceLT, ↓reduceIte, ↓reduceCtorEq]

theorem awake_pure : Pure Try.prog 28 [] (.bool true) :=
  awake_walk (slotAtt 3) (slotAtt 5) rfl rfl rfl (by decide +kernel) (by decide +kernel) (by decide +kernel) (by decide +kernel) (by decide +kernel) (by decide +kernel)

