/- The way down. -/
import Derived.Test.YtpcegpfbmmgbbaaBeI
set_option linter.unusedSimpArgs false
namespace Go.Proofs.Ytpcegpfbmmgbbaa
open Go Go.Ab

def downL (f : Int → Int) : Nat → Int → List Int
  | 0, _ => []
  | n + 1, i => if i = -1 then [] else i :: downL f n (f i)
def lineF (t : List Node) (w : List Int) (ld : List Bool) (i : Int) : List Int := downL (kidF t w ld) ((t.length : Int) - i).toNat i
def lineR (t : List Node) (w : List Int) (ld : List Bool) (i : Int) : List Int := if toldB t w ld = true ∧ 0 ≤ i ∧ i < t.length then lineF t w ld i else []

theorem kid_above {t : List Node} {w : List Int} {ld : List Bool} (hm : mayB t = true) {i : Int} : ∀ k, k ≤ t.length → kidTo t w ld i k = -1 ∨ i < kidTo t w ld i k
  | 0, _ => .inl rfl
  | k + 1, hk => by
    have ih := kid_above (w := w) (ld := ld) (i := i) hm k (by omega)
    have hp := may_parent hm (k := k) (by omega)
    rw [kidTo, bstep]
    split
    · exact ih
    · rename_i h
      split
      · right
        have : (t.getD k zNode).parent = i := Classical.not_not.1 fun e => h (.inl e)
        rcases hp with h' | h' <;> omega
      · exact ih
theorem kidF_range {t : List Node} {w : List Int} {ld : List Bool} (hm : mayB t = true) (i : Int) (_hi : 0 ≤ i) : kidF t w ld i = -1 ∨ (i < kidF t w ld i ∧ kidF t w ld i < t.length) := by
  have h1 := kid_above (w := w) (ld := ld) (i := i) hm t.length (Nat.le_refl _)
  have h2 := kidTo_range t w ld i t.length
  unfold kidF
  omega
theorem downL_none (f : Int → Int) (m : Nat) : downL f m (-1) = [] := by cases m <;> simp [downL]
theorem downL_fuel (f : Int → Int) (n : Int) (hf : ∀ i, 0 ≤ i → i < n → f i = -1 ∨ (i < f i ∧ f i < n)) : ∀ (m m' : Nat) (i : Int), 0 ≤ i → i < n → n - i ≤ m → n - i ≤ m' → downL f m i = downL f m' i
  | 0, _, i, _, h1, h2, _ => by omega
  | _, 0, i, _, h1, _, h2 => by omega
  | m + 1, m' + 1, i, h0, h1, h2, h3 => by
    simp only [downL, if_neg (show ¬ i = -1 by omega)]
    rcases hf i h0 h1 with h | ⟨h4, h5⟩
    · rw [h, downL_none, downL_none]
    · rw [downL_fuel f n hf m m' (f i) (by omega) h5 (by omega) (by omega)]
theorem lineF_none (t : List Node) (w : List Int) (ld : List Bool) : lineF t w ld (-1) = [] := downL_none _ _
theorem lineF_next {t : List Node} {w : List Int} {ld : List Bool} (hm : mayB t = true) {i : Int} (h0 : 0 ≤ i) (h1 : i < t.length) : lineF t w ld i = i :: lineF t w ld (kidF t w ld i) := by
  obtain ⟨m, hmm⟩ : ∃ m, ((t.length : Int) - i).toNat = m + 1 := ⟨((t.length : Int) - i).toNat - 1, by omega⟩
  rw [lineF, hmm, downL, if_neg (by omega)]
  congr 1
  rcases kidF_range (w := w) (ld := ld) hm i h0 with h | ⟨h4, h5⟩
  · rw [h, downL_none, lineF_none]
  · exact downL_fuel _ t.length (fun j hj _ => kidF_range hm j hj) _ _ _ (by omega) h5 (by omega) (by omega)
theorem lineF_len {t : List Node} {w : List Int} {ld : List Bool} (i : Int) (h0 : 0 ≤ i) : (lineF t w ld i).length ≤ t.length := by
  have : ∀ (m : Nat) (j : Int), (downL (kidF t w ld) m j).length ≤ m := fun m => by
    induction m with
    | zero => intro j; simp [downL]
    | succ m ih => intro j; simp only [downL]; split <;> simp; exact ih _
  have := this ((t.length : Int) - i).toNat i
  unfold lineF
  omega

theorem down_own (xs : List AV) (i : Int) : Own Try.prog 51 [.sl xs false, .int .i64 i] (.fn (.func 60) [] [.ptr 0 [] 0, .ptr 1 [] 0]) [(0, .var (.int .i64 i)), (1, .var (.sl xs false))] := by
  refine own_of_tr Try.func51 rfl (Nat.le_of_ble_eq_true rfl) rfl fun E hE hP => ?_
  first | refine tr_seq_region (by rw [hE]; rfl) ?_ | (refine Tr.seq ?_; refine tr_seq_region (by rw [hE]; rfl) ?_)
  repeat (refine vc_op rfl ?_; simp only [go_sem, ↓Nat.reduceBEq, ↓Nat.reduceAdd, ↓Nat.reduceSub, ↓Nat.reduceMul, ↓Nat.reduceEqDiff, ↓Nat.reducePow, ↓Nat.reduceLeDiff, ↓Nat.reduceLT, ↓Int.reduceLE, ↓Int.reduceLT, ↓reduceIte, ↓reduceCtorEq])
  refine vc_nil ?_
  first | refine tr_seq_region (by rw [hE]; rfl) ?_ | (refine Tr.seq ?_; refine tr_seq_region (by rw [hE]; rfl) ?_)
  repeat (refine vc_op rfl ?_; simp only [go_sem, ↓Nat.reduceBEq, ↓Nat.reduceAdd, ↓Nat.reduceSub, ↓Nat.reduceMul, ↓Nat.reduceEqDiff, ↓Nat.reducePow, ↓Nat.reduceLeDiff, ↓Nat.reduceLT, ↓Int.reduceLE, ↓Int.reduceLT, ↓reduceIte, ↓reduceCtorEq])
  refine vc_nil ?_
  refine Tr.ret ?_
  simp only [Try.f51, go_sem, ↓Nat.reduceBEq, ↓Nat.reduceAdd, ↓Nat.reduceSub, ↓Nat.reduceMul, ↓Nat.reduceEqDiff, ↓Nat.reducePow, ↓Nat.reduceLeDiff, ↓Nat.reduceLT, ↓Int.reduceLE, ↓Int.reduceLT, ↓reduceIte, ↓reduceCtorEq]
  exact ⟨fun | 0 => 16 | 1 => 0 | n => n, rfl, ⟨⟨rfl, rfl, rfl⟩, ⟨rfl, rfl, rfl⟩, trivial⟩, rfl⟩

def st25 (t : List Node) (w : List Int) (ld : List Bool) (i : Int) : S where
  fr := [(9, .ptr 0 [] 0), (32, .fn (.func 60) [] [.ptr 1 [] 0, .ptr 2 [] 0])]
  hp := [(0, .var (.ms 3 1 0)), (1, .var (.int .i64 i)), (2, .var (.sl (rowI (fun j => kidF t w ld j) t.length) false)), (3, .row 1 [])]
  nx := 4
def st60 (t : List Node) (w : List Int) (ld : List Bool) (l : Nat) (b : LB) (p : List Int × Int) : S where
  fr := [(0, .fn (.yield l) [] []), (1, .ptr 1 [] 0), (2, .ptr 2 [] 0)]
  hp := [(5, .lp b .ready none), (4, .dfr), (0, .var (.ms 6 1 p.1.length)), (1, .var (.int .i64 p.2)), (2, .var (.sl (rowI (fun j => kidF t w ld j) t.length) false)), (6, .row 1 (p.1.map iav))]
  nx := 7

set_option maxRecDepth 10000 in
theorem line_pure (t : List Node) (w : List Int) (ld : List Bool) (i : Int) : Pure Try.prog 25 [tav t, .sl (w.map uav) false, .sl (ld.map .bool) false, .int .i64 i] (.sl ((lineR t w ld i).map iav) false) := by
  refine pure_of_trM Try.func25 rfl (Nat.le_of_ble_eq_true rfl) rfl fun E hE hP => ?_
  first | refine tr_seq_region (by rw [hE]; rfl) ?_ | (refine Tr.seq ?_; refine tr_seq_region (by rw [hE]; rfl) ?_)
  repeat (refine vc_op rfl ?_; simp only [go_sem, ↓Nat.reduceBEq, ↓Nat.reduceAdd, ↓Nat.reduceSub, ↓Nat.reduceMul, ↓Nat.reduceEqDiff, ↓Nat.reducePow, ↓Nat.reduceLeDiff, ↓Nat.reduceLT, ↓Int.reduceLE, ↓Int.reduceLT, ↓reduceIte, ↓reduceCtorEq])
  refine vc_nil ?_
  by_cases ht : toldB t w ld = true
  · by_cases h0 : i < 0
    · have e0 : decide (i < 0) = true := decide_eq_true h0
      have er : lineR t w ld i = [] := by unfold lineR; rw [if_neg (by omega)]
      first | apply tr_m (by rw [hE]; rfl) | (refine Tr.seq ?_; apply tr_m (by rw [hE]; rfl))
      intro Q hQ
      simp only [List.toList_toArray, List.map_cons, List.map_nil, mo, guardSlot, Option.map_some, Option.map_none, List.getElem?_toArray, List.getElem?_cons_succ, List.getElem?_cons_zero, Option.bind_some]
      iterate 3 ((refine vm_op ?_); intro r hr; simp only [go_sem, ↓Nat.reduceBEq, ↓Nat.reduceAdd, ↓Nat.reduceSub, ↓Nat.reduceMul, ↓Nat.reduceEqDiff, ↓Nat.reducePow, ↓Nat.reduceLeDiff, ↓Nat.reduceLT, ↓Int.reduceLE, ↓Int.reduceLT, ↓reduceIte, ↓reduceCtorEq]; subst hr)
      (refine vm_op ?_); intro r hr; simp only [go_sem, ↓Nat.reduceBEq, ↓Nat.reduceAdd, ↓Nat.reduceSub, ↓Nat.reduceMul, ↓Nat.reduceEqDiff, ↓Nat.reducePow, ↓Nat.reduceLeDiff, ↓Nat.reduceLT, ↓Int.reduceLE, ↓Int.reduceLT, ↓reduceIte, ↓reduceCtorEq]
      refine call_fn rfl rfl rfl rfl (enters_of Try.func50 (by kernel_rfl) rfl) (told_pure t w ld) rfl rfl rfl ?_
      simp only [go_sem, ↓Nat.reduceBEq, ↓Nat.reduceAdd, ↓Nat.reduceSub, ↓Nat.reduceMul, ↓Nat.reduceEqDiff, ↓Nat.reducePow, ↓Nat.reduceLeDiff, ↓Nat.reduceLT, ↓Int.reduceLE, ↓Int.reduceLT, ↓reduceIte, ↓reduceCtorEq]
      subst hr
      iterate 2 ((refine vm_op ?_); intro r hr; simp only [ht, e0, go_sem, ↓Nat.reduceBEq, ↓Nat.reduceAdd, ↓Nat.reduceSub, ↓Nat.reduceMul, ↓Nat.reduceEqDiff, ↓Nat.reducePow, ↓Nat.reduceLeDiff, ↓Nat.reduceLT, ↓Int.reduceLE, ↓Int.reduceLT, ↓reduceIte, ↓reduceCtorEq]; subst hr)
      iterate 2 ((first | refine vm_if rfl ?_ | refine vm_no rfl ?_ | refine vm_skip rfl ?_); intro r hr; simp only [ht, e0, go_sem, ↓Nat.reduceBEq, ↓Nat.reduceAdd, ↓Nat.reduceSub, ↓Nat.reduceMul, ↓Nat.reduceEqDiff, ↓Nat.reducePow, ↓Nat.reduceLeDiff, ↓Nat.reduceLT, ↓Int.reduceLE, ↓Int.reduceLT, ↓reduceIte, ↓reduceCtorEq]; subst hr)
      iterate 2 ((refine vm_op ?_); intro r hr; simp only [ht, e0, go_sem, ↓Nat.reduceBEq, ↓Nat.reduceAdd, ↓Nat.reduceSub, ↓Nat.reduceMul, ↓Nat.reduceEqDiff, ↓Nat.reducePow, ↓Nat.reduceLeDiff, ↓Nat.reduceLT, ↓Int.reduceLE, ↓Int.reduceLT, ↓reduceIte, ↓reduceCtorEq]; subst hr)
      iterate 5 ((first | refine vm_if rfl ?_ | refine vm_no rfl ?_ | refine vm_skip rfl ?_); intro r hr; simp only [ht, e0, go_sem, ↓Nat.reduceBEq, ↓Nat.reduceAdd, ↓Nat.reduceSub, ↓Nat.reduceMul, ↓Nat.reduceEqDiff, ↓Nat.reducePow, ↓Nat.reduceLeDiff, ↓Nat.reduceLT, ↓Int.reduceLE, ↓Int.reduceLT, ↓reduceIte, ↓reduceCtorEq]; subst hr)
      (refine vm_op ?_); intro r hr; simp only [ht, e0, go_sem, ↓Nat.reduceBEq, ↓Nat.reduceAdd, ↓Nat.reduceSub, ↓Nat.reduceMul, ↓Nat.reduceEqDiff, ↓Nat.reducePow, ↓Nat.reduceLeDiff, ↓Nat.reduceLT, ↓Int.reduceLE, ↓Int.reduceLT, ↓reduceIte, ↓reduceCtorEq]; subst hr
      exact hQ
      first | refine Tr.cond (b := true) rfl (fun _ => ?_) (fun h => by cases h) | refine Tr.seq (Tr.cond (b := true) rfl (fun _ => ?_) (fun h => by cases h))
      first | refine tr_seq_region (by rw [hE]; rfl) ?_ | (refine Tr.seq ?_; refine tr_seq_region (by rw [hE]; rfl) ?_)
      repeat (refine vc_op rfl ?_; simp only [go_sem, ↓Nat.reduceBEq, ↓Nat.reduceAdd, ↓Nat.reduceSub, ↓Nat.reduceMul, ↓Nat.reduceEqDiff, ↓Nat.reducePow, ↓Nat.reduceLeDiff, ↓Nat.reduceLT, ↓Int.reduceLE, ↓Int.reduceLT, ↓reduceIte, ↓reduceCtorEq])
      refine vc_nil ?_
      refine Tr.ret ?_
      rw [er]
      refine ⟨List.nodup_nil, fun o ho => (by cases ho), ?_⟩
      simp only [drop_none,  Try.f25, go_sem, ↓Nat.reduceBEq, ↓Nat.reduceAdd, ↓Nat.reduceSub, ↓Nat.reduceMul, ↓Nat.reduceEqDiff, ↓Nat.reducePow, ↓Nat.reduceLeDiff, ↓Nat.reduceLT, ↓Int.reduceLE, ↓Int.reduceLT, ↓reduceIte, ↓reduceCtorEq]
    · have e0 : decide (i < 0) = false := decide_eq_false h0
      by_cases h1 : t.length ≤ i
      · have e1 : decide ((t.length : Int) ≤ i) = true := decide_eq_true h1
        have er : lineR t w ld i = [] := by unfold lineR; rw [if_neg (by omega)]
        first | apply tr_m (by rw [hE]; rfl) | (refine Tr.seq ?_; apply tr_m (by rw [hE]; rfl))
        intro Q hQ
        simp only [List.toList_toArray, List.map_cons, List.map_nil, mo, guardSlot, Option.map_some, Option.map_none, List.getElem?_toArray, List.getElem?_cons_succ, List.getElem?_cons_zero, Option.bind_some]
        iterate 3 ((refine vm_op ?_); intro r hr; simp only [go_sem, ↓Nat.reduceBEq, ↓Nat.reduceAdd, ↓Nat.reduceSub, ↓Nat.reduceMul, ↓Nat.reduceEqDiff, ↓Nat.reducePow, ↓Nat.reduceLeDiff, ↓Nat.reduceLT, ↓Int.reduceLE, ↓Int.reduceLT, ↓reduceIte, ↓reduceCtorEq]; subst hr)
        (refine vm_op ?_); intro r hr; simp only [go_sem, ↓Nat.reduceBEq, ↓Nat.reduceAdd, ↓Nat.reduceSub, ↓Nat.reduceMul, ↓Nat.reduceEqDiff, ↓Nat.reducePow, ↓Nat.reduceLeDiff, ↓Nat.reduceLT, ↓Int.reduceLE, ↓Int.reduceLT, ↓reduceIte, ↓reduceCtorEq]
        refine call_fn rfl rfl rfl rfl (enters_of Try.func50 (by kernel_rfl) rfl) (told_pure t w ld) rfl rfl rfl ?_
        simp only [go_sem, ↓Nat.reduceBEq, ↓Nat.reduceAdd, ↓Nat.reduceSub, ↓Nat.reduceMul, ↓Nat.reduceEqDiff, ↓Nat.reducePow, ↓Nat.reduceLeDiff, ↓Nat.reduceLT, ↓Int.reduceLE, ↓Int.reduceLT, ↓reduceIte, ↓reduceCtorEq]
        subst hr
        iterate 2 ((refine vm_op ?_); intro r hr; simp only [ht, e0, e1, go_sem, ↓Nat.reduceBEq, ↓Nat.reduceAdd, ↓Nat.reduceSub, ↓Nat.reduceMul, ↓Nat.reduceEqDiff, ↓Nat.reducePow, ↓Nat.reduceLeDiff, ↓Nat.reduceLT, ↓Int.reduceLE, ↓Int.reduceLT, ↓reduceIte, ↓reduceCtorEq]; subst hr)
        iterate 2 ((first | refine vm_if rfl ?_ | refine vm_no rfl ?_ | refine vm_skip rfl ?_); intro r hr; simp only [ht, e0, e1, go_sem, ↓Nat.reduceBEq, ↓Nat.reduceAdd, ↓Nat.reduceSub, ↓Nat.reduceMul, ↓Nat.reduceEqDiff, ↓Nat.reducePow, ↓Nat.reduceLeDiff, ↓Nat.reduceLT, ↓Int.reduceLE, ↓Int.reduceLT, ↓reduceIte, ↓reduceCtorEq]; subst hr)
        iterate 2 ((refine vm_op ?_); intro r hr; simp only [ht, e0, e1, go_sem, ↓Nat.reduceBEq, ↓Nat.reduceAdd, ↓Nat.reduceSub, ↓Nat.reduceMul, ↓Nat.reduceEqDiff, ↓Nat.reducePow, ↓Nat.reduceLeDiff, ↓Nat.reduceLT, ↓Int.reduceLE, ↓Int.reduceLT, ↓reduceIte, ↓reduceCtorEq]; subst hr)
        iterate 5 ((first | refine vm_if rfl ?_ | refine vm_no rfl ?_ | refine vm_skip rfl ?_); intro r hr; simp only [ht, e0, e1, go_sem, ↓Nat.reduceBEq, ↓Nat.reduceAdd, ↓Nat.reduceSub, ↓Nat.reduceMul, ↓Nat.reduceEqDiff, ↓Nat.reducePow, ↓Nat.reduceLeDiff, ↓Nat.reduceLT, ↓Int.reduceLE, ↓Int.reduceLT, ↓reduceIte, ↓reduceCtorEq]; subst hr)
        (refine vm_op ?_); intro r hr; simp only [ht, e0, e1, go_sem, ↓Nat.reduceBEq, ↓Nat.reduceAdd, ↓Nat.reduceSub, ↓Nat.reduceMul, ↓Nat.reduceEqDiff, ↓Nat.reducePow, ↓Nat.reduceLeDiff, ↓Nat.reduceLT, ↓Int.reduceLE, ↓Int.reduceLT, ↓reduceIte, ↓reduceCtorEq]; subst hr
        exact hQ
        first | refine Tr.cond (b := true) rfl (fun _ => ?_) (fun h => by cases h) | refine Tr.seq (Tr.cond (b := true) rfl (fun _ => ?_) (fun h => by cases h))
        first | refine tr_seq_region (by rw [hE]; rfl) ?_ | (refine Tr.seq ?_; refine tr_seq_region (by rw [hE]; rfl) ?_)
        repeat (refine vc_op rfl ?_; simp only [go_sem, ↓Nat.reduceBEq, ↓Nat.reduceAdd, ↓Nat.reduceSub, ↓Nat.reduceMul, ↓Nat.reduceEqDiff, ↓Nat.reducePow, ↓Nat.reduceLeDiff, ↓Nat.reduceLT, ↓Int.reduceLE, ↓Int.reduceLT, ↓reduceIte, ↓reduceCtorEq])
        refine vc_nil ?_
        refine Tr.ret ?_
        rw [er]
        refine ⟨List.nodup_nil, fun o ho => (by cases ho), ?_⟩
        simp only [drop_none,  Try.f25, go_sem, ↓Nat.reduceBEq, ↓Nat.reduceAdd, ↓Nat.reduceSub, ↓Nat.reduceMul, ↓Nat.reduceEqDiff, ↓Nat.reducePow, ↓Nat.reduceLeDiff, ↓Nat.reduceLT, ↓Int.reduceLE, ↓Int.reduceLT, ↓reduceIte, ↓reduceCtorEq]
      · have e1 : decide ((t.length : Int) ≤ i) = false := decide_eq_false h1
        have er : lineR t w ld i = lineF t w ld i := by unfold lineR; rw [if_pos ⟨ht, by omega, by omega⟩]
        obtain ⟨hm, hwl, hdl⟩ := told_facts ht
        first | apply tr_m (by rw [hE]; rfl) | (refine Tr.seq ?_; apply tr_m (by rw [hE]; rfl))
        intro Q hQ
        simp only [List.toList_toArray, List.map_cons, List.map_nil, mo, guardSlot, Option.map_some, Option.map_none, List.getElem?_toArray, List.getElem?_cons_succ, List.getElem?_cons_zero, Option.bind_some]
        iterate 3 ((refine vm_op ?_); intro r hr; simp only [go_sem, ↓Nat.reduceBEq, ↓Nat.reduceAdd, ↓Nat.reduceSub, ↓Nat.reduceMul, ↓Nat.reduceEqDiff, ↓Nat.reducePow, ↓Nat.reduceLeDiff, ↓Nat.reduceLT, ↓Int.reduceLE, ↓Int.reduceLT, ↓reduceIte, ↓reduceCtorEq]; subst hr)
        (refine vm_op ?_); intro r hr; simp only [go_sem, ↓Nat.reduceBEq, ↓Nat.reduceAdd, ↓Nat.reduceSub, ↓Nat.reduceMul, ↓Nat.reduceEqDiff, ↓Nat.reducePow, ↓Nat.reduceLeDiff, ↓Nat.reduceLT, ↓Int.reduceLE, ↓Int.reduceLT, ↓reduceIte, ↓reduceCtorEq]
        refine call_fn rfl rfl rfl rfl (enters_of Try.func50 (by kernel_rfl) rfl) (told_pure t w ld) rfl rfl rfl ?_
        simp only [go_sem, ↓Nat.reduceBEq, ↓Nat.reduceAdd, ↓Nat.reduceSub, ↓Nat.reduceMul, ↓Nat.reduceEqDiff, ↓Nat.reducePow, ↓Nat.reduceLeDiff, ↓Nat.reduceLT, ↓Int.reduceLE, ↓Int.reduceLT, ↓reduceIte, ↓reduceCtorEq]
        subst hr
        iterate 2 ((refine vm_op ?_); intro r hr; simp only [ht, e0, e1, go_sem, ↓Nat.reduceBEq, ↓Nat.reduceAdd, ↓Nat.reduceSub, ↓Nat.reduceMul, ↓Nat.reduceEqDiff, ↓Nat.reducePow, ↓Nat.reduceLeDiff, ↓Nat.reduceLT, ↓Int.reduceLE, ↓Int.reduceLT, ↓reduceIte, ↓reduceCtorEq]; subst hr)
        iterate 2 ((first | refine vm_if rfl ?_ | refine vm_no rfl ?_ | refine vm_skip rfl ?_); intro r hr; simp only [ht, e0, e1, go_sem, ↓Nat.reduceBEq, ↓Nat.reduceAdd, ↓Nat.reduceSub, ↓Nat.reduceMul, ↓Nat.reduceEqDiff, ↓Nat.reducePow, ↓Nat.reduceLeDiff, ↓Nat.reduceLT, ↓Int.reduceLE, ↓Int.reduceLT, ↓reduceIte, ↓reduceCtorEq]; subst hr)
        iterate 2 ((refine vm_op ?_); intro r hr; simp only [ht, e0, e1, go_sem, ↓Nat.reduceBEq, ↓Nat.reduceAdd, ↓Nat.reduceSub, ↓Nat.reduceMul, ↓Nat.reduceEqDiff, ↓Nat.reducePow, ↓Nat.reduceLeDiff, ↓Nat.reduceLT, ↓Int.reduceLE, ↓Int.reduceLT, ↓reduceIte, ↓reduceCtorEq]; subst hr)
        iterate 5 ((first | refine vm_if rfl ?_ | refine vm_no rfl ?_ | refine vm_skip rfl ?_); intro r hr; simp only [ht, e0, e1, go_sem, ↓Nat.reduceBEq, ↓Nat.reduceAdd, ↓Nat.reduceSub, ↓Nat.reduceMul, ↓Nat.reduceEqDiff, ↓Nat.reducePow, ↓Nat.reduceLeDiff, ↓Nat.reduceLT, ↓Int.reduceLE, ↓Int.reduceLT, ↓reduceIte, ↓reduceCtorEq]; subst hr)
        (refine vm_op ?_); intro r hr; simp only [ht, e0, e1, go_sem, ↓Nat.reduceBEq, ↓Nat.reduceAdd, ↓Nat.reduceSub, ↓Nat.reduceMul, ↓Nat.reduceEqDiff, ↓Nat.reducePow, ↓Nat.reduceLeDiff, ↓Nat.reduceLT, ↓Int.reduceLE, ↓Int.reduceLT, ↓reduceIte, ↓reduceCtorEq]; subst hr
        exact hQ
        first | refine Tr.cond rfl (fun h => by cases h) (fun _ => ?_) | refine Tr.seq (Tr.cond rfl (fun h => by cases h) (fun _ => ?_))
        refine Tr.skip ?_
        try simp only [blockK, thenK, ↓reduceIte]
        first | refine tr_seq_region (by rw [hE]; rfl) ?_ | (refine Tr.seq ?_; refine tr_seq_region (by rw [hE]; rfl) ?_)
        repeat (refine vc_op rfl ?_; simp only [go_sem, ↓Nat.reduceBEq, ↓Nat.reduceAdd, ↓Nat.reduceSub, ↓Nat.reduceMul, ↓Nat.reduceEqDiff, ↓Nat.reducePow, ↓Nat.reduceLeDiff, ↓Nat.reduceLT, ↓Int.reduceLE, ↓Int.reduceLT, ↓reduceIte, ↓reduceCtorEq])
        refine vc_nil ?_
        first | apply tr_m (by rw [hE]; rfl) | (refine Tr.seq ?_; apply tr_m (by rw [hE]; rfl))
        intro Q hQ
        simp only [List.toList_toArray, List.map_cons, List.map_nil, mo, guardSlot, Option.map_some, Option.map_none, List.getElem?_toArray, List.getElem?_cons_succ, List.getElem?_cons_zero, Option.bind_some]
        iterate 3 ((refine vm_op ?_); intro r hr; simp only [go_sem, ↓Nat.reduceBEq, ↓Nat.reduceAdd, ↓Nat.reduceSub, ↓Nat.reduceMul, ↓Nat.reduceEqDiff, ↓Nat.reducePow, ↓Nat.reduceLeDiff, ↓Nat.reduceLT, ↓Int.reduceLE, ↓Int.reduceLT, ↓reduceIte, ↓reduceCtorEq]; subst hr)
        (refine vm_op ?_); intro r hr; simp only [go_sem, ↓Nat.reduceBEq, ↓Nat.reduceAdd, ↓Nat.reduceSub, ↓Nat.reduceMul, ↓Nat.reduceEqDiff, ↓Nat.reducePow, ↓Nat.reduceLeDiff, ↓Nat.reduceLT, ↓Int.reduceLE, ↓Int.reduceLT, ↓reduceIte, ↓reduceCtorEq]
        refine call_fn rfl rfl rfl rfl (enters_of Try.func52 (by kernel_rfl) rfl) (kids_pure t w ld ht) rfl rfl rfl ?_
        simp only [go_sem, ↓Nat.reduceBEq, ↓Nat.reduceAdd, ↓Nat.reduceSub, ↓Nat.reduceMul, ↓Nat.reduceEqDiff, ↓Nat.reducePow, ↓Nat.reduceLeDiff, ↓Nat.reduceLT, ↓Int.reduceLE, ↓Int.reduceLT, ↓reduceIte, ↓reduceCtorEq]
        subst hr
        (refine vm_op ?_); intro r hr; simp only [go_sem, ↓Nat.reduceBEq, ↓Nat.reduceAdd, ↓Nat.reduceSub, ↓Nat.reduceMul, ↓Nat.reduceEqDiff, ↓Nat.reducePow, ↓Nat.reduceLeDiff, ↓Nat.reduceLT, ↓Int.reduceLE, ↓Int.reduceLT, ↓reduceIte, ↓reduceCtorEq]; subst hr
        (refine vm_op ?_); intro r hr; simp only [go_sem, ↓Nat.reduceBEq, ↓Nat.reduceAdd, ↓Nat.reduceSub, ↓Nat.reduceMul, ↓Nat.reduceEqDiff, ↓Nat.reducePow, ↓Nat.reduceLeDiff, ↓Nat.reduceLT, ↓Int.reduceLE, ↓Int.reduceLT, ↓reduceIte, ↓reduceCtorEq]
        refine call_own rfl rfl rfl rfl (enters_of Try.func51 (by kernel_rfl) rfl) (down_own (rowI (fun j => kidF t w ld j) t.length) i) rfl rfl ?_
        simp only [go_sem, ↓Nat.reduceBEq, ↓Nat.reduceAdd, ↓Nat.reduceSub, ↓Nat.reduceMul, ↓Nat.reduceEqDiff, ↓Nat.reducePow, ↓Nat.reduceLeDiff, ↓Nat.reduceLT, ↓Int.reduceLE, ↓Int.reduceLT, ↓reduceIte, ↓reduceCtorEq]
        subst hr
        exact hQ
        refine Tr.wk (Wk.trans (Wk.nilVar 288 1 rfl) (s'' := st25 t w ld i) ?_) ?_
        · refine wk_ren (fun | 0 => 288 | 1 => 384 | 2 => 385 | 3 => 400 | n => n) ?_ ?_ rfl rfl rfl
          · repeat' (first | exact rfl | exact trivial | constructor)
          · repeat' (first | exact rfl | exact trivial | constructor)
        · unfold st25
          refine Tr.block ?_
          refine Tr.range (fid := 60) (fn := Try.f60) rfl (enters_of Try.func60 (by kernel_rfl) rfl) Try.func60 rfl rfl (Nat.le_of_ble_eq_true rfl) ?_
          have hE0 := hE
          intro E' l b hE hP' sd
          have hP : E'.pn = 6 := hP'
          first | refine Tr.block ?_ | (refine Tr.seq ?_; refine Tr.block ?_)
          refine Tr.loop (st60 t w ld l b) (fun p => (p.2 = -1 ∨ (0 ≤ p.2 ∧ p.2 < t.length)) ∧ p.1 ++ lineF t w ld p.2 = lineF t w ld i) (fun p => (lineF t w ld p.2).length) ([], i) ⟨.inr ⟨by omega, by omega⟩, rfl⟩ ?_ ?_
          · refine wk_ren (fun | 6 => 3 | n => n) ?_ ?_ rfl rfl rfl
            · repeat' (first | exact rfl | exact trivial | constructor)
            · repeat' (first | exact rfl | exact trivial | constructor)
          · rintro ⟨d, c⟩ ⟨hc, hline⟩
            unfold st60
            rcases hc with hc | ⟨hc0, hc1⟩
            · simp only at hc
              subst hc
              first | refine tr_seq_y 5 sd (by rw [hE]; rfl) rfl rfl rfl ?_ | (refine Tr.seq ?_; refine tr_seq_y 5 sd (by rw [hE]; rfl) rfl rfl rfl ?_)
              simp only [List.toList_toArray, List.take_succ_cons, List.take_zero]
              repeat (first | (refine vc_op rfl ?_; simp only [go_sem, ↓Nat.reduceBEq, ↓Nat.reduceAdd, ↓Nat.reduceSub, ↓Nat.reduceMul, ↓Nat.reduceEqDiff, ↓Nat.reducePow, ↓Nat.reduceLeDiff, ↓Nat.reduceLT, ↓Int.reduceLE, ↓Int.reduceLT, ↓reduceIte, ↓reduceCtorEq]) | (refine vc_go rfl rfl rfl ?_; simp only [go_sem, ↓Nat.reduceBEq, ↓Nat.reduceAdd, ↓Nat.reduceSub, ↓Nat.reduceMul, ↓Nat.reduceEqDiff, ↓Nat.reducePow, ↓Nat.reduceLeDiff, ↓Nat.reduceLT, ↓Int.reduceLE, ↓Int.reduceLT, ↓reduceIte, ↓reduceCtorEq]) | (refine vc_no rfl rfl rfl ?_; simp only [go_sem, ↓Nat.reduceBEq, ↓Nat.reduceAdd, ↓Nat.reduceSub, ↓Nat.reduceMul, ↓Nat.reduceEqDiff, ↓Nat.reducePow, ↓Nat.reduceLeDiff, ↓Nat.reduceLT, ↓Int.reduceLE, ↓Int.reduceLT, ↓reduceIte, ↓reduceCtorEq]) | (refine vc_skip rfl rfl rfl ?_; simp only [go_sem, ↓Nat.reduceBEq, ↓Nat.reduceAdd, ↓Nat.reduceSub, ↓Nat.reduceMul, ↓Nat.reduceEqDiff, ↓Nat.reducePow, ↓Nat.reduceLeDiff, ↓Nat.reduceLT, ↓Int.reduceLE, ↓Int.reduceLT, ↓reduceIte, ↓reduceCtorEq]))
              refine vc_nil ?_
              refine gy_no rfl rfl rfl ?_
              simp only [go_sem, ↓Nat.reduceBEq, ↓Nat.reduceAdd, ↓Nat.reduceSub, ↓Nat.reduceMul, ↓Nat.reduceEqDiff, ↓Nat.reducePow, ↓Nat.reduceLeDiff, ↓Nat.reduceLT, ↓Int.reduceLE, ↓Int.reduceLT, ↓reduceIte, ↓reduceCtorEq]
              repeat (refine vc_op rfl ?_; simp only [go_sem, ↓Nat.reduceBEq, ↓Nat.reduceAdd, ↓Nat.reduceSub, ↓Nat.reduceMul, ↓Nat.reduceEqDiff, ↓Nat.reducePow, ↓Nat.reduceLeDiff, ↓Nat.reduceLT, ↓Int.reduceLE, ↓Int.reduceLT, ↓reduceIte, ↓reduceCtorEq])
              refine vc_nil ?_
              first | refine Tr.cond (b := false) rfl (fun h => by cases h) (fun _ => ?_) | refine Tr.seq (Tr.cond (b := false) rfl (fun h => by cases h) (fun _ => ?_))
              refine Tr.exit ?_
              try simp only [blockK, thenK, ↓reduceIte]
              have hE := hE0
              refine ⟨rfl, _, _, rfl, by simp, rfl, ?_⟩
              simp only [goOn]
              simp only [HP.del, List.filter_cons, List.filter_nil, Bool.not_false, Bool.not_true, if_true, Bool.false_eq_true, if_false, go_sem, ↓Nat.reduceBEq, ↓Nat.reduceAdd, ↓Nat.reduceSub, ↓Nat.reduceMul, ↓Nat.reduceEqDiff, ↓Nat.reducePow, ↓Nat.reduceLeDiff, ↓Nat.reduceLT, ↓Int.reduceLE, ↓Int.reduceLT, ↓reduceIte, ↓reduceCtorEq]
              have hd : d = lineF t w ld i := by
                have h := hline
                simp only [lineF_none, List.append_nil] at h
                exact h
              have hlen : d.length = (d.map iav).length := by simp
              rw [er, ← hd]
              first | refine tr_seq_region (by rw [hE]; rfl) ?_ | (refine Tr.seq ?_; refine tr_seq_region (by rw [hE]; rfl) ?_)
              repeat (refine vc_op rfl ?_; simp only [go_sem, ↓Nat.reduceBEq, ↓Nat.reduceAdd, ↓Nat.reduceSub, ↓Nat.reduceMul, ↓Nat.reduceEqDiff, ↓Nat.reducePow, ↓Nat.reduceLeDiff, ↓Nat.reduceLT, ↓Int.reduceLE, ↓Int.reduceLT, ↓reduceIte, ↓reduceCtorEq])
              refine vc_nil ?_
              refine Tr.ret ?_
              refine ⟨by simp, fun o ho => by rw [List.mem_singleton.1 ho]; rfl, ?_⟩
              simp only [HP.drop, List.contains_cons, List.contains_nil, Bool.or_false, Bool.false_or, Bool.or_true, List.filter_cons, List.filter_nil, Bool.not_false, Bool.not_true, if_true, Bool.false_eq_true, if_false, ← hlen, Try.f25, go_sem, ↓Nat.reduceBEq, ↓Nat.reduceAdd, ↓Nat.reduceSub, ↓Nat.reduceMul, ↓Nat.reduceEqDiff, ↓Nat.reducePow, ↓Nat.reduceLeDiff, ↓Nat.reduceLT, ↓Int.reduceLE, ↓Int.reduceLT, ↓reduceIte, ↓reduceCtorEq]
            · obtain ⟨j, rfl⟩ : ∃ j : Nat, c = j := ⟨c.toNat, by simp only at hc0; omega⟩
              have ej : ((j : Int) != -1) = true := by rw [int_bne, decide_eq_false (by omega)]; rfl
              first | refine tr_seq_y 5 sd (by rw [hE]; rfl) rfl rfl rfl ?_ | (refine Tr.seq ?_; refine tr_seq_y 5 sd (by rw [hE]; rfl) rfl rfl rfl ?_)
              simp only [List.toList_toArray, List.take_succ_cons, List.take_zero]
              repeat (first | (refine vc_op rfl ?_; simp only [ej, go_sem, ↓Nat.reduceBEq, ↓Nat.reduceAdd, ↓Nat.reduceSub, ↓Nat.reduceMul, ↓Nat.reduceEqDiff, ↓Nat.reducePow, ↓Nat.reduceLeDiff, ↓Nat.reduceLT, ↓Int.reduceLE, ↓Int.reduceLT, ↓reduceIte, ↓reduceCtorEq]) | (refine vc_go rfl rfl rfl ?_; simp only [ej, go_sem, ↓Nat.reduceBEq, ↓Nat.reduceAdd, ↓Nat.reduceSub, ↓Nat.reduceMul, ↓Nat.reduceEqDiff, ↓Nat.reducePow, ↓Nat.reduceLeDiff, ↓Nat.reduceLT, ↓Int.reduceLE, ↓Int.reduceLT, ↓reduceIte, ↓reduceCtorEq]) | (refine vc_no rfl rfl rfl ?_; simp only [ej, go_sem, ↓Nat.reduceBEq, ↓Nat.reduceAdd, ↓Nat.reduceSub, ↓Nat.reduceMul, ↓Nat.reduceEqDiff, ↓Nat.reducePow, ↓Nat.reduceLeDiff, ↓Nat.reduceLT, ↓Int.reduceLE, ↓Int.reduceLT, ↓reduceIte, ↓reduceCtorEq]) | (refine vc_skip rfl rfl rfl ?_; simp only [ej, go_sem, ↓Nat.reduceBEq, ↓Nat.reduceAdd, ↓Nat.reduceSub, ↓Nat.reduceMul, ↓Nat.reduceEqDiff, ↓Nat.reducePow, ↓Nat.reduceLeDiff, ↓Nat.reduceLT, ↓Int.reduceLE, ↓Int.reduceLT, ↓reduceIte, ↓reduceCtorEq]))
              refine vc_nil ?_
              have hE1 := hE
              have hP1 := hP
              refine gy_if rfl rfl rfl ?_
              refine ⟨_, rfl, rfl, rfl, rfl, by rw [hE0]; rfl, rfl, ?_⟩
              intro Er hE hP
              rw [hE0] at hE
              simp only [frPut, List.zip_cons_cons, List.zip_nil_left, List.zip_nil_right, List.foldl_cons, List.foldl_nil, List.toList_toArray, List.map_cons, List.map_nil, go_sem, ↓Nat.reduceBEq, ↓Nat.reduceAdd, ↓Nat.reduceSub, ↓Nat.reduceMul, ↓Nat.reduceEqDiff, ↓Nat.reducePow, ↓Nat.reduceLeDiff, ↓Nat.reduceLT, ↓Int.reduceLE, ↓Int.reduceLT, ↓reduceIte, ↓reduceCtorEq]
              refine tr_region (by rw [hE]; rfl) ?_
              repeat (refine vc_op rfl ?_; simp only [go_sem, ↓Nat.reduceBEq, ↓Nat.reduceAdd, ↓Nat.reduceSub, ↓Nat.reduceMul, ↓Nat.reduceEqDiff, ↓Nat.reducePow, ↓Nat.reduceLeDiff, ↓Nat.reduceLT, ↓Int.reduceLE, ↓Int.reduceLT, ↓reduceIte, ↓reduceCtorEq])
              refine vc_nil ?_
              refine ⟨rfl, ?_⟩
              simp only [go_sem, ↓Nat.reduceBEq, ↓Nat.reduceAdd, ↓Nat.reduceSub, ↓Nat.reduceMul, ↓Nat.reduceEqDiff, ↓Nat.reducePow, ↓Nat.reduceLeDiff, ↓Nat.reduceLT, ↓Int.reduceLE, ↓Int.reduceLT, ↓reduceIte, ↓reduceCtorEq]
              first | refine Tr.block ?_ | (refine Tr.seq ?_; refine Tr.block ?_)
              have hline : d ++ lineF t w ld j = lineF t w ld i := hline
              have hd12 : d.length ≤ 12 := by
                have h1 := congrArg List.length hline
                have h2 := lineF_len (t := t) (w := w) (ld := ld) i (by omega)
                rw [List.length_append] at h1
                have := (may_len hm).2
                omega
              apply tr_ml (by rw [hE]; rfl)
              intro Q hQ
              simp only [List.toList_toArray, List.map_cons, List.map_nil, mo, guardSlot, Option.map_some, Option.map_none, List.getElem?_toArray, List.getElem?_cons_succ, List.getElem?_cons_zero, Option.bind_some]
              iterate 3 ((refine vm_op ?_); intro r hr; simp only [go_sem, ↓Nat.reduceBEq, ↓Nat.reduceAdd, ↓Nat.reduceSub, ↓Nat.reduceMul, ↓Nat.reduceEqDiff, ↓Nat.reducePow, ↓Nat.reduceLeDiff, ↓Nat.reduceLT, ↓Int.reduceLE, ↓Int.reduceLT, ↓reduceIte, ↓reduceCtorEq]; subst hr)
              (refine vm_op ?_); intro r hr; simp only [go_sem, ↓Nat.reduceBEq, ↓Nat.reduceAdd, ↓Nat.reduceSub, ↓Nat.reduceMul, ↓Nat.reduceEqDiff, ↓Nat.reducePow, ↓Nat.reduceLeDiff, ↓Nat.reduceLT, ↓Int.reduceLE, ↓Int.reduceLT, ↓reduceIte, ↓reduceCtorEq]
              refine ⟨by omega, by omega, ?_⟩
              simp only [List.filter_cons, List.filter_nil, Bool.not_false, Bool.not_true, if_true, Bool.false_eq_true, if_false, go_sem, ↓Nat.reduceBEq, ↓Nat.reduceAdd, ↓Nat.reduceSub, ↓Nat.reduceMul, ↓Nat.reduceEqDiff, ↓Nat.reducePow, ↓Nat.reduceLeDiff, ↓Nat.reduceLT, ↓Int.reduceLE, ↓Int.reduceLT, ↓reduceIte, ↓reduceCtorEq]
              subst hr
              (refine vm_op ?_); intro r hr; simp only [go_sem, ↓Nat.reduceBEq, ↓Nat.reduceAdd, ↓Nat.reduceSub, ↓Nat.reduceMul, ↓Nat.reduceEqDiff, ↓Nat.reducePow, ↓Nat.reduceLeDiff, ↓Nat.reduceLT, ↓Int.reduceLE, ↓Int.reduceLT, ↓reduceIte, ↓reduceCtorEq]; subst hr
              exact hQ
              try simp only [blockK, thenK, ↓reduceIte]
              refine ⟨rfl, ?_⟩
              simp only [go_sem, ↓Nat.reduceBEq, ↓Nat.reduceAdd, ↓Nat.reduceSub, ↓Nat.reduceMul, ↓Nat.reduceEqDiff, ↓Nat.reducePow, ↓Nat.reduceLeDiff, ↓Nat.reduceLT, ↓Int.reduceLE, ↓Int.reduceLT, ↓reduceIte, ↓reduceCtorEq]
              repeat (refine vc_op rfl ?_; simp only [go_sem, ↓Nat.reduceBEq, ↓Nat.reduceAdd, ↓Nat.reduceSub, ↓Nat.reduceMul, ↓Nat.reduceEqDiff, ↓Nat.reducePow, ↓Nat.reduceLeDiff, ↓Nat.reduceLT, ↓Int.reduceLE, ↓Int.reduceLT, ↓reduceIte, ↓reduceCtorEq])
              refine vc_nil ?_
              have hE := hE1
              have hP := hP1
              first | refine Tr.cond (b := true) rfl (fun _ => ?_) (fun h => by cases h) | refine Tr.seq (Tr.cond (b := true) rfl (fun _ => ?_) (fun h => by cases h))
              refine Tr.skip ?_
              try simp only [blockK, thenK, ↓reduceIte]
              have hn := nth_row (fun j => kidF t w ld j) (n := t.length) (i := j) (by omega)
              first | refine Tr.block ?_ | (refine Tr.seq ?_; refine Tr.block ?_)
              apply tr_ml (by rw [hE]; rfl)
              intro Q hQ
              simp only [List.toList_toArray, List.map_cons, List.map_nil, mo, guardSlot, Option.map_some, Option.map_none, List.getElem?_toArray, List.getElem?_cons_succ, List.getElem?_cons_zero, Option.bind_some]
              iterate 5 ((refine vm_op ?_); intro r hr; simp only [hn, go_sem, ↓Nat.reduceBEq, ↓Nat.reduceAdd, ↓Nat.reduceSub, ↓Nat.reduceMul, ↓Nat.reduceEqDiff, ↓Nat.reducePow, ↓Nat.reduceLeDiff, ↓Nat.reduceLT, ↓Int.reduceLE, ↓Int.reduceLT, ↓reduceIte, ↓reduceCtorEq]; subst hr)
              exact hQ
              try simp only [blockK, thenK, ↓reduceIte]
              have hnext := lineF_next (w := w) (ld := ld) hm (i := j) (by omega) (by omega)
              have hkr := kidF_range (w := w) (ld := ld) hm j (by omega)
              refine ⟨(d ++ [(j : Int)], kidF t w ld j), ⟨by omega, ?_⟩, ?_, ?_⟩
              · rw [List.append_assoc, List.singleton_append, ← hnext]; exact hline
              · show (lineF t w ld (kidF t w ld j)).length < (lineF t w ld j).length
                rw [hnext]; simp
              · simp only [st60, List.map_append, List.length_append, List.length_singleton, List.map_cons, List.map_nil]
                refine wk_ren (fun | 6 => 151 | n => n) ?_ ?_ rfl rfl rfl
                · repeat' (first | exact rfl | exact trivial | constructor)
                · repeat' (first | exact rfl | exact trivial | constructor)
  · have ht : toldB t w ld = false := by simpa using ht
    have er : lineR t w ld i = [] := by unfold lineR; rw [if_neg (by simp [ht])]
    first | apply tr_m (by rw [hE]; rfl) | (refine Tr.seq ?_; apply tr_m (by rw [hE]; rfl))
    intro Q hQ
    simp only [List.toList_toArray, List.map_cons, List.map_nil, mo, guardSlot, Option.map_some, Option.map_none, List.getElem?_toArray, List.getElem?_cons_succ, List.getElem?_cons_zero, Option.bind_some]
    iterate 3 ((refine vm_op ?_); intro r hr; simp only [go_sem, ↓Nat.reduceBEq, ↓Nat.reduceAdd, ↓Nat.reduceSub, ↓Nat.reduceMul, ↓Nat.reduceEqDiff, ↓Nat.reducePow, ↓Nat.reduceLeDiff, ↓Nat.reduceLT, ↓Int.reduceLE, ↓Int.reduceLT, ↓reduceIte, ↓reduceCtorEq]; subst hr)
    (refine vm_op ?_); intro r hr; simp only [go_sem, ↓Nat.reduceBEq, ↓Nat.reduceAdd, ↓Nat.reduceSub, ↓Nat.reduceMul, ↓Nat.reduceEqDiff, ↓Nat.reducePow, ↓Nat.reduceLeDiff, ↓Nat.reduceLT, ↓Int.reduceLE, ↓Int.reduceLT, ↓reduceIte, ↓reduceCtorEq]
    refine call_fn rfl rfl rfl rfl (enters_of Try.func50 (by kernel_rfl) rfl) (told_pure t w ld) rfl rfl rfl ?_
    simp only [go_sem, ↓Nat.reduceBEq, ↓Nat.reduceAdd, ↓Nat.reduceSub, ↓Nat.reduceMul, ↓Nat.reduceEqDiff, ↓Nat.reducePow, ↓Nat.reduceLeDiff, ↓Nat.reduceLT, ↓Int.reduceLE, ↓Int.reduceLT, ↓reduceIte, ↓reduceCtorEq]
    subst hr
    iterate 2 ((refine vm_op ?_); intro r hr; simp only [ht, go_sem, ↓Nat.reduceBEq, ↓Nat.reduceAdd, ↓Nat.reduceSub, ↓Nat.reduceMul, ↓Nat.reduceEqDiff, ↓Nat.reducePow, ↓Nat.reduceLeDiff, ↓Nat.reduceLT, ↓Int.reduceLE, ↓Int.reduceLT, ↓reduceIte, ↓reduceCtorEq]; subst hr)
    iterate 2 ((first | refine vm_if rfl ?_ | refine vm_no rfl ?_ | refine vm_skip rfl ?_); intro r hr; simp only [ht, go_sem, ↓Nat.reduceBEq, ↓Nat.reduceAdd, ↓Nat.reduceSub, ↓Nat.reduceMul, ↓Nat.reduceEqDiff, ↓Nat.reducePow, ↓Nat.reduceLeDiff, ↓Nat.reduceLT, ↓Int.reduceLE, ↓Int.reduceLT, ↓reduceIte, ↓reduceCtorEq]; subst hr)
    iterate 2 ((refine vm_op ?_); intro r hr; simp only [ht, go_sem, ↓Nat.reduceBEq, ↓Nat.reduceAdd, ↓Nat.reduceSub, ↓Nat.reduceMul, ↓Nat.reduceEqDiff, ↓Nat.reducePow, ↓Nat.reduceLeDiff, ↓Nat.reduceLT, ↓Int.reduceLE, ↓Int.reduceLT, ↓reduceIte, ↓reduceCtorEq]; subst hr)
    iterate 5 ((first | refine vm_if rfl ?_ | refine vm_no rfl ?_ | refine vm_skip rfl ?_); intro r hr; simp only [ht, go_sem, ↓Nat.reduceBEq, ↓Nat.reduceAdd, ↓Nat.reduceSub, ↓Nat.reduceMul, ↓Nat.reduceEqDiff, ↓Nat.reducePow, ↓Nat.reduceLeDiff, ↓Nat.reduceLT, ↓Int.reduceLE, ↓Int.reduceLT, ↓reduceIte, ↓reduceCtorEq]; subst hr)
    (refine vm_op ?_); intro r hr; simp only [ht, go_sem, ↓Nat.reduceBEq, ↓Nat.reduceAdd, ↓Nat.reduceSub, ↓Nat.reduceMul, ↓Nat.reduceEqDiff, ↓Nat.reducePow, ↓Nat.reduceLeDiff, ↓Nat.reduceLT, ↓Int.reduceLE, ↓Int.reduceLT, ↓reduceIte, ↓reduceCtorEq]; subst hr
    exact hQ
    first | refine Tr.cond (b := true) rfl (fun _ => ?_) (fun h => by cases h) | refine Tr.seq (Tr.cond (b := true) rfl (fun _ => ?_) (fun h => by cases h))
    first | refine tr_seq_region (by rw [hE]; rfl) ?_ | (refine Tr.seq ?_; refine tr_seq_region (by rw [hE]; rfl) ?_)
    repeat (refine vc_op rfl ?_; simp only [go_sem, ↓Nat.reduceBEq, ↓Nat.reduceAdd, ↓Nat.reduceSub, ↓Nat.reduceMul, ↓Nat.reduceEqDiff, ↓Nat.reducePow, ↓Nat.reduceLeDiff, ↓Nat.reduceLT, ↓Int.reduceLE, ↓Int.reduceLT, ↓reduceIte, ↓reduceCtorEq])
    refine vc_nil ?_
    refine Tr.ret ?_
    rw [er]
    refine ⟨List.nodup_nil, fun o ho => (by cases ho), ?_⟩
    simp only [drop_none,  Try.f25, go_sem, ↓Nat.reduceBEq, ↓Nat.reduceAdd, ↓Nat.reduceSub, ↓Nat.reduceMul, ↓Nat.reduceEqDiff, ↓Nat.reducePow, ↓Nat.reduceLeDiff, ↓Nat.reduceLT, ↓Int.reduceLE, ↓Int.reduceLT, ↓reduceIte, ↓reduceCtorEq]
