/- What is on one chain; the best one. -/
import Derived.Test.YtdlejnafhmpobaaDoorFiP
set_option linter.unusedSimpArgs false
set_option maxRecDepth 10000
namespace Go.Proofs.YtdlejnafhmpobaaDoor
open Go Go.Ab

def chTo (t : List Node) (l : List Check) (i : Nat) : Bool := (List.range i).all (rowB t l)
def inTo (t : List Node) (l : List Check) (a : Check) (k : Nat) : Bool := (l.take k).all (pairB t a)
theorem chTo_next (t : List Node) (l : List Check) (i : Nat) : chTo t l (i + 1) = (chTo t l i && rowB t l i) := by
  unfold chTo
  rw [List.range_succ, List.all_append]
  simp
theorem chTo_false {t : List Node} {l : List Check} {i : Nat} (h : chTo t l i = false) : ∀ n, i ≤ n → chTo t l n = false := fun n hn => by
  unfold chTo at h ⊢
  obtain ⟨x, hx, h2⟩ := List.all_eq_false.1 h
  exact List.all_eq_false.2 ⟨x, List.mem_range.2 (by have := List.mem_range.1 hx; omega), h2⟩
theorem inTo_next {t : List Node} {l : List Check} {a : Check} {k : Nat} (h : k < l.length) : inTo t l a (k + 1) = (inTo t l a k && pairB t a l[k]) := by
  unfold inTo
  rw [List.take_add_one, List.getElem?_eq_getElem h, List.all_append]
  simp only [Option.toList_some, List.all_cons, List.all_nil, Bool.and_true]
theorem inTo_false {t : List Node} {l : List Check} {a : Check} {k : Nat} (h : inTo t l a k = false) : ∀ n, k ≤ n → inTo t l a n = false := fun n hn => by
  unfold inTo at h ⊢
  obtain ⟨x, hx, h2⟩ := List.all_eq_false.1 h
  exact List.all_eq_false.2 ⟨x, (List.take_subset_take_left l hn) hx, h2⟩
theorem rowB_at {t : List Node} {l : List Check} {i : Nat} (h : i < l.length) : rowB t l i = inTo t l l[i] i := by
  have hd : l.getD i zCheck = l[i] := by simp [h]
  unfold rowB inTo
  rw [hd]
theorem chainR_eq (t : List Node) (l : List Check) : chainR t l = (mayB t && chTo t l l.length) := rfl

theorem refchain_pure (t : List Node) (l : List Check) (ht : t.length ≤ 100) (hl : l.length ≤ 100) : Pure Tryd.prog 16 [tav t, checks l] (.bool (chainR t l)) := by
  have h1 := refmay_pure t ht
  rw [refmay_eq] at h1
  unfold checks
  refine pure_of_tr Tryd.func16 rfl (Nat.le_of_ble_eq_true rfl) rfl fun E hE hP => ?_
  first | refine tr_seq_region (by rw [hE]; rfl) ?_ | (refine Tr.seq ?_; refine tr_seq_region (by rw [hE]; rfl) ?_)
  repeat (refine vc_op rfl ?_; simp only [go_sem, seval])
  refine vc_nil ?_
  first | apply tr_m (by rw [hE]; rfl) | (refine Tr.seq ?_; apply tr_m (by rw [hE]; rfl))
  intro Q hQ
  simp only [List.toList_toArray, List.map_cons, List.map_nil, mo, guardSlot, Option.map_some, Option.map_none, List.getElem?_toArray, List.getElem?_cons_succ, List.getElem?_cons_zero, Option.bind_some]
  (refine vm_op ?_); intro r hr; simp only [go_sem, seval]; subst hr
  (refine vm_op ?_); intro r hr; simp only [go_sem, seval]
  refine call_fn rfl rfl rfl rfl (enters_of Tryd.func39 (by kernel_rfl) rfl) (h1) rfl rfl rfl ?_
  simp only [go_sem, seval]
  subst hr
  (refine vm_op ?_); intro r hr; simp only [go_sem, seval]; subst hr
  exact hQ
  first | refine tr_seq_region (by rw [hE]; rfl) ?_ | (refine Tr.seq ?_; refine tr_seq_region (by rw [hE]; rfl) ?_)
  repeat (refine vc_op rfl ?_; simp only [go_sem, seval])
  refine vc_nil ?_
  first | refine Tr.block ?_ | (refine Tr.seq ?_; refine Tr.block ?_)
  refine Tr.loop (fun i : Nat => (⟨[(1, .sl (l.map Check.av) false), (2, .ptr 0 [] 0), (5, .bool (mayB t && chTo t l i)), (6, .int .i64 i)], [(0, .var (tav t))], 1, []⟩ : S)) (fun i => i ≤ l.length) (fun i => l.length - i) 0 (Nat.zero_le _) ?_ ?_
  · have e0 : (mayB t && chTo t l 0) = mayB t := by unfold chTo; simp
    rw [e0]
    refine wk_ren (fun n => n) ?_ ?_ rfl rfl rfl
    · repeat' (first | exact rfl | exact trivial | constructor)
    · repeat' (first | exact rfl | exact trivial | constructor)
  · intro i hi
    by_cases hlt : i < l.length
    · have e1 : decide ((i : Int) < (l.length : Int)) = true := decide_eq_true (by omega)
      have hn := nth_map_lt Check.av l i hlt
      have hw := wrap_next (n := i) (by omega)
      have hnx := chTo_next t l i
      rw [rowB_at hlt] at hnx
      cases hb : mayB t && chTo t l i with
      | false =>
        have er : chainR t l = false := by
          rw [chainR_eq]
          cases hm : mayB t with
          | false => rfl
          | true => rw [hm, Bool.true_and] at hb; rw [chTo_false hb l.length hi]; rfl
        first | apply tr_m (by rw [hE]; rfl) | (refine Tr.seq ?_; apply tr_m (by rw [hE]; rfl))
        intro Q hQ
        simp only [List.toList_toArray, List.map_cons, List.map_nil, mo, guardSlot, Option.map_some, Option.map_none, List.getElem?_toArray, List.getElem?_cons_succ, List.getElem?_cons_zero, Option.bind_some]
        iterate 5 ((refine vm_op ?_); intro r hr; simp only [e1, go_sem, seval]; subst hr)
        (first | refine vm_if rfl ?_ | refine vm_no rfl ?_ | refine vm_skip rfl ?_); intro r hr; simp only [e1, go_sem, seval]; subst hr
        (refine vm_op ?_); intro r hr; simp only [e1, go_sem, seval]; subst hr
        exact hQ
        first | refine Tr.cond (b := false) rfl (fun h => by cases h) (fun _ => ?_) | refine Tr.seq (Tr.cond (b := false) rfl (fun h => by cases h) (fun _ => ?_))
        refine Tr.exit ?_
        try simp only [blockK, thenK, ↓reduceIte]
        first | refine tr_seq_region (by rw [hE]; rfl) ?_ | (refine Tr.seq ?_; refine tr_seq_region (by rw [hE]; rfl) ?_)
        repeat (refine vc_op rfl ?_; simp only [go_sem, seval])
        refine vc_nil ?_
        refine Tr.ret ?_
        simp only [er, Tryd.f16, go_sem, seval]
      | true =>
        obtain ⟨hm, hch⟩ : mayB t = true ∧ chTo t l i = true := by simpa using hb
        rw [hch, Bool.true_and] at hnx
        generalize hla : l[i] = a at hn hnx
        first | apply tr_m (by rw [hE]; rfl) | (refine Tr.seq ?_; apply tr_m (by rw [hE]; rfl))
        intro Q hQ
        simp only [List.toList_toArray, List.map_cons, List.map_nil, mo, guardSlot, Option.map_some, Option.map_none, List.getElem?_toArray, List.getElem?_cons_succ, List.getElem?_cons_zero, Option.bind_some]
        iterate 5 ((refine vm_op ?_); intro r hr; simp only [e1, go_sem, seval]; subst hr)
        (first | refine vm_if rfl ?_ | refine vm_no rfl ?_ | refine vm_skip rfl ?_); intro r hr; simp only [e1, go_sem, seval]; subst hr
        (refine vm_op ?_); intro r hr; simp only [e1, go_sem, seval]; subst hr
        exact hQ
        first | refine Tr.cond (b := true) rfl (fun _ => ?_) (fun h => by cases h) | refine Tr.seq (Tr.cond (b := true) rfl (fun _ => ?_) (fun h => by cases h))
        refine Tr.skip ?_
        try simp only [blockK, thenK, ↓reduceIte]
        first | refine Tr.block ?_ | (refine Tr.seq ?_; refine Tr.block ?_)
        first | refine tr_seq_region (by rw [hE]; rfl) ?_ | (refine Tr.seq ?_; refine tr_seq_region (by rw [hE]; rfl) ?_)
        repeat (refine vc_op rfl ?_; simp only [go_sem, seval])
        refine vc_nil ?_
        first | refine Tr.block ?_ | (refine Tr.seq ?_; refine Tr.block ?_)
        refine Tr.loop (fun k : Nat => (⟨[(1, .sl (l.map Check.av) false), (2, .ptr 0 [] 0), (5, .bool (inTo t l a k)), (6, .int .i64 i), (7, .int .i64 k)], [(0, .var (tav t))], 1, []⟩ : S)) (fun k => k ≤ i) (fun k => i - k) 0 (Nat.zero_le _) ?_ ?_
        · have e0 : inTo t l a 0 = true := rfl
          rw [e0]
          refine wk_ren (fun n => n) ?_ ?_ rfl rfl rfl
          · repeat' (first | exact rfl | exact trivial | constructor)
          · repeat' (first | exact rfl | exact trivial | constructor)
        · intro k hk
          by_cases hki : k < i
          · have e2 : decide ((k : Int) < (i : Int)) = true := decide_eq_true (by omega)
            have hw2 := wrap_next (n := k) (by omega)
            cases hq : inTo t l a k with
            | false =>
              have er : (mayB t && chTo t l (i + 1)) = false := by rw [hnx, inTo_false hq i hk, Bool.and_false]
              first | apply tr_m (by rw [hE]; rfl) | (refine Tr.seq ?_; apply tr_m (by rw [hE]; rfl))
              intro Q hQ
              simp only [List.toList_toArray, List.map_cons, List.map_nil, mo, guardSlot, Option.map_some, Option.map_none, List.getElem?_toArray, List.getElem?_cons_succ, List.getElem?_cons_zero, Option.bind_some]
              iterate 4 ((refine vm_op ?_); intro r hr; simp only [e2, go_sem, seval]; subst hr)
              (first | refine vm_if rfl ?_ | refine vm_no rfl ?_ | refine vm_skip rfl ?_); intro r hr; simp only [e2, go_sem, seval]; subst hr
              (refine vm_op ?_); intro r hr; simp only [e2, go_sem, seval]; subst hr
              exact hQ
              first | refine Tr.cond (b := false) rfl (fun h => by cases h) (fun _ => ?_) | refine Tr.seq (Tr.cond (b := false) rfl (fun h => by cases h) (fun _ => ?_))
              refine Tr.exit ?_
              try simp only [blockK, thenK, ↓reduceIte]
              refine tr_region (by rw [hE]; rfl) ?_
              repeat (refine vc_op rfl ?_; simp only [go_sem, seval])
              refine vc_nil ?_
              rw [hw]
              try simp only [blockK, thenK, ↓reduceIte]
              refine ⟨i + 1, hlt, by omega, ?_⟩
              rw [er]
              refine wk_ren (fun n => n) ?_ ?_ rfl rfl rfl
              · repeat' (first | exact rfl | exact trivial | constructor)
              · repeat' (first | exact rfl | exact trivial | constructor)
            | true =>
              have hnk := nth_map_lt Check.av l k (by omega)
              have hin := inTo_next (t := t) (a := a) (k := k) (l := l) (by omega)
              rw [hq, Bool.true_and] at hin
              generalize l[k]'(by omega) = c at hnk hin
              have hS : pairB t a c = (behindB t a c || behindB t c a) := rfl
              rw [hS] at hin
              have c1 := refbehind_pure t a c ht
              have c2 := refbehind_pure t c a ht
              generalize behindB t a c = x1 at c1 hin
              generalize behindB t c a = x2 at c2 hin
              first | apply tr_m (by rw [hE]; rfl) | (refine Tr.seq ?_; apply tr_m (by rw [hE]; rfl))
              intro Q hQ
              simp only [List.toList_toArray, List.map_cons, List.map_nil, mo, guardSlot, Option.map_some, Option.map_none, List.getElem?_toArray, List.getElem?_cons_succ, List.getElem?_cons_zero, Option.bind_some]
              iterate 4 ((refine vm_op ?_); intro r hr; simp only [e2, go_sem, seval]; subst hr)
              (first | refine vm_if rfl ?_ | refine vm_no rfl ?_ | refine vm_skip rfl ?_); intro r hr; simp only [e2, go_sem, seval]; subst hr
              (refine vm_op ?_); intro r hr; simp only [e2, go_sem, seval]; subst hr
              exact hQ
              first | refine Tr.cond (b := true) rfl (fun _ => ?_) (fun h => by cases h) | refine Tr.seq (Tr.cond (b := true) rfl (fun _ => ?_) (fun h => by cases h))
              refine Tr.skip ?_
              try simp only [blockK, thenK, ↓reduceIte]
              first | refine Tr.block ?_ | (refine Tr.seq ?_; refine Tr.block ?_)
              first | apply tr_md mixed [0] rfl (by rw [hE]; rfl) (by kernel_rfl) | (refine Tr.seq ?_; apply tr_md mixed [0] rfl (by rw [hE]; rfl) (by kernel_rfl))
              intro Q hQ
              simp only [List.toList_toArray, List.map_cons, List.map_nil, mo, guardSlot, Option.map_some, Option.map_none, List.getElem?_toArray, List.getElem?_cons_succ, List.getElem?_cons_zero, Option.bind_some]
              iterate 9 ((refine vd2_q rfl ?_); intro r hr; simp only [hn, hnk, go_sem, seval]; subst hr)
              (refine vd2_x rfl ?_); intro r hr; simp only [hn, hnk, go_sem, seval]
              refine call_fn rfl rfl rfl rfl (enters_of Tryd.func40 (by kernel_rfl) rfl) (c1) rfl rfl rfl ?_
              simp only [go_sem, seval]
              subst hr
              (refine vd2_q rfl ?_); intro r hr; simp only [go_sem, seval]; subst hr
              exact hQ
              first | apply tr_md mixed [0] rfl (by rw [hE]; rfl) (by kernel_rfl) | (refine Tr.seq ?_; apply tr_md mixed [0] rfl (by rw [hE]; rfl) (by kernel_rfl))
              intro Q hQ
              simp only [List.toList_toArray, List.map_cons, List.map_nil, mo, guardSlot, Option.map_some, Option.map_none, List.getElem?_toArray, List.getElem?_cons_succ, List.getElem?_cons_zero, Option.bind_some]
              iterate 9 ((refine vd2_q rfl ?_); intro r hr; simp only [hn, hnk, go_sem, seval]; subst hr)
              (refine vd2_x rfl ?_); intro r hr; simp only [hn, hnk, go_sem, seval]
              refine call_fn rfl rfl rfl rfl (enters_of Tryd.func40 (by kernel_rfl) rfl) (c2) rfl rfl rfl ?_
              simp only [go_sem, seval]
              subst hr
              (refine vd2_q rfl ?_); intro r hr; simp only [go_sem, seval]; subst hr
              exact hQ
              cases x1
              · rw [Bool.false_or] at hin
                apply tr_ml (by rw [hE]; rfl)
                intro Q hQ
                simp only [List.toList_toArray, List.map_cons, List.map_nil, mo, guardSlot, Option.map_some, Option.map_none, List.getElem?_toArray, List.getElem?_cons_succ, List.getElem?_cons_zero, Option.bind_some]
                iterate 2 ((refine vm_op ?_); intro r hr; simp only [go_sem, seval]; subst hr)
                (first | refine vm_if rfl ?_ | refine vm_no rfl ?_ | refine vm_skip rfl ?_); intro r hr; simp only [go_sem, seval]; subst hr
                iterate 2 ((refine vm_op ?_); intro r hr; simp only [go_sem, seval]; subst hr)
                exact hQ
                try simp only [blockK, thenK, ↓reduceIte]
                refine tr_region (by rw [hE]; rfl) ?_
                repeat (refine vc_op rfl ?_; simp only [go_sem, seval])
                refine vc_nil ?_
                rw [hw2]
                try simp only [blockK, thenK, ↓reduceIte]
                refine ⟨k + 1, hki, by omega, ?_⟩
                rw [hin]
                refine wk_ren (fun n => n) ?_ ?_ rfl rfl rfl
                · repeat' (first | exact rfl | exact trivial | constructor)
                · repeat' (first | exact rfl | exact trivial | constructor)
              · rw [Bool.true_or] at hin
                apply tr_ml (by rw [hE]; rfl)
                intro Q hQ
                simp only [List.toList_toArray, List.map_cons, List.map_nil, mo, guardSlot, Option.map_some, Option.map_none, List.getElem?_toArray, List.getElem?_cons_succ, List.getElem?_cons_zero, Option.bind_some]
                iterate 2 ((refine vm_op ?_); intro r hr; simp only [go_sem, seval]; subst hr)
                (first | refine vm_if rfl ?_ | refine vm_no rfl ?_ | refine vm_skip rfl ?_); intro r hr; simp only [go_sem, seval]; subst hr
                iterate 2 ((refine vm_op ?_); intro r hr; simp only [go_sem, seval]; subst hr)
                exact hQ
                try simp only [blockK, thenK, ↓reduceIte]
                refine tr_region (by rw [hE]; rfl) ?_
                repeat (refine vc_op rfl ?_; simp only [go_sem, seval])
                refine vc_nil ?_
                rw [hw2]
                try simp only [blockK, thenK, ↓reduceIte]
                refine ⟨k + 1, hki, by omega, ?_⟩
                rw [hin]
                refine wk_ren (fun n => n) ?_ ?_ rfl rfl rfl
                · repeat' (first | exact rfl | exact trivial | constructor)
                · repeat' (first | exact rfl | exact trivial | constructor)
          · have e2 : decide ((k : Int) < (i : Int)) = false := decide_eq_false (by omega)
            have hki : k = i := by omega
            subst hki
            have er : (mayB t && chTo t l (k + 1)) = inTo t l a k := by rw [hnx, hm, Bool.true_and]
            generalize inTo t l a k = y at er
            first | apply tr_m (by rw [hE]; rfl) | (refine Tr.seq ?_; apply tr_m (by rw [hE]; rfl))
            intro Q hQ
            simp only [List.toList_toArray, List.map_cons, List.map_nil, mo, guardSlot, Option.map_some, Option.map_none, List.getElem?_toArray, List.getElem?_cons_succ, List.getElem?_cons_zero, Option.bind_some]
            iterate 4 ((refine vm_op ?_); intro r hr; simp only [e2, go_sem, seval]; subst hr)
            (first | refine vm_if rfl ?_ | refine vm_no rfl ?_ | refine vm_skip rfl ?_); intro r hr; simp only [e2, go_sem, seval]; subst hr
            (refine vm_op ?_); intro r hr; simp only [e2, go_sem, seval]; subst hr
            exact hQ
            first | refine Tr.cond (b := false) rfl (fun h => by cases h) (fun _ => ?_) | refine Tr.seq (Tr.cond (b := false) rfl (fun h => by cases h) (fun _ => ?_))
            refine Tr.exit ?_
            try simp only [blockK, thenK, ↓reduceIte]
            refine tr_region (by rw [hE]; rfl) ?_
            repeat (refine vc_op rfl ?_; simp only [go_sem, seval])
            refine vc_nil ?_
            rw [hw]
            try simp only [blockK, thenK, ↓reduceIte]
            refine ⟨k + 1, hlt, by omega, ?_⟩
            rw [er]
            refine wk_ren (fun n => n) ?_ ?_ rfl rfl rfl
            · repeat' (first | exact rfl | exact trivial | constructor)
            · repeat' (first | exact rfl | exact trivial | constructor)
    · have e1 : decide ((i : Int) < (l.length : Int)) = false := decide_eq_false (by omega)
      have hil : i = l.length := by omega
      subst hil
      rw [← chainR_eq]
      first | apply tr_m (by rw [hE]; rfl) | (refine Tr.seq ?_; apply tr_m (by rw [hE]; rfl))
      intro Q hQ
      simp only [List.toList_toArray, List.map_cons, List.map_nil, mo, guardSlot, Option.map_some, Option.map_none, List.getElem?_toArray, List.getElem?_cons_succ, List.getElem?_cons_zero, Option.bind_some]
      iterate 5 ((refine vm_op ?_); intro r hr; simp only [e1, go_sem, seval]; subst hr)
      (first | refine vm_if rfl ?_ | refine vm_no rfl ?_ | refine vm_skip rfl ?_); intro r hr; simp only [e1, go_sem, seval]; subst hr
      (refine vm_op ?_); intro r hr; simp only [e1, go_sem, seval]; subst hr
      exact hQ
      first | refine Tr.cond (b := false) rfl (fun h => by cases h) (fun _ => ?_) | refine Tr.seq (Tr.cond (b := false) rfl (fun h => by cases h) (fun _ => ?_))
      refine Tr.exit ?_
      try simp only [blockK, thenK, ↓reduceIte]
      first | refine tr_seq_region (by rw [hE]; rfl) ?_ | (refine Tr.seq ?_; refine tr_seq_region (by rw [hE]; rfl) ?_)
      repeat (refine vc_op rfl ?_; simp only [go_sem, seval])
      refine vc_nil ?_
      refine Tr.ret ?_
      simp only [Tryd.f16, go_sem, seval]
