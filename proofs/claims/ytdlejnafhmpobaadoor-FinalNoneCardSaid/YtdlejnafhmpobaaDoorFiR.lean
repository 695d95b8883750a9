/- The program: the best one, and what is on one chain. -/
import Derived.Test.YtdlejnafhmpobaaDoorFiQ
set_option linter.unusedSimpArgs false
set_option maxRecDepth 10000
namespace Go.Proofs.YtdlejnafhmpobaaDoor
open Go Go.Ab

theorem best_pure (t : List Node) (f : List Check) (fin : Check) (hfl : f.length ≤ 100) : Pure Tryd.prog 19 [tav t, checks f, fin.av] (bestR t f fin).av := by
  have er : bestR t f fin = f.foldl (bestS t fin) fin := rfl
  unfold checks
  refine pure_of_tr Tryd.func19 rfl (Nat.le_of_ble_eq_true rfl) rfl fun E hE hP => ?_
  first | refine tr_seq_region (by rw [hE]; rfl) ?_ | (refine Tr.seq ?_; refine tr_seq_region (by rw [hE]; rfl) ?_)
  repeat (refine vc_op rfl ?_; simp only [go_sem, seval])
  refine vc_nil ?_
  first | refine tr_seq_region (by rw [hE]; rfl) ?_ | (refine Tr.seq ?_; refine tr_seq_region (by rw [hE]; rfl) ?_)
  repeat (refine vc_op rfl ?_; simp only [go_sem, seval])
  refine vc_nil ?_
  first | refine tr_seq_region (by rw [hE]; rfl) ?_ | (refine Tr.seq ?_; refine tr_seq_region (by rw [hE]; rfl) ?_)
  repeat (refine vc_op rfl ?_; simp only [go_sem, seval])
  refine vc_nil ?_
  first | refine Tr.block ?_ | (refine Tr.seq ?_; refine Tr.block ?_)
  refine Tr.loop (fun i : Nat => (⟨[(3, .ptr 0 [] 0), (5, .ptr 16 [] 0), (6, .ptr 32 [] 0), (7, .ptr 64 [] 0), (11, .sl (f.map Check.av) false), (12, .int .i64 f.length), (13, .int .i64 i)], [(0, .var (tav t)), (16, .var fin.av), (32, .var zCheck.av), (64, .var ((f.take i).foldl (bestS t fin) fin).av)], 65, []⟩ : S)) (fun i => i ≤ f.length) (fun i => f.length - i) 0 (Nat.zero_le _) ?_ ?_
  · refine wk_ren (fun n => n) ?_ ?_ rfl rfl rfl
    · repeat' (first | exact rfl | exact trivial | constructor)
    · repeat' (first | exact rfl | exact trivial | constructor)
  · intro i hi
    by_cases hlt : i < f.length
    · have e1 : decide ((i : Int) < (f.length : Int)) = true := decide_eq_true (by omega)
      have hn := nth_map_lt Check.av f i hlt
      have hw := wrap_next (n := i) (by omega)
      have hnx := foldl_next (bestS t fin) fin hlt
      generalize (f.take i).foldl (bestS t fin) fin = o at hnx
      generalize f[i] = c at hn hnx
      have c1 := behind_pure t c fin
      have c2 := better_pure o c
      have hS : bestS t fin o c = if behindB t c fin && betterB o c then c else o := rfl
      rw [hS] at hnx
      generalize behindB t c fin = x1 at c1 hnx
      first | refine tr_seq_region (by rw [hE]; rfl) ?_ | (refine Tr.seq ?_; refine tr_seq_region (by rw [hE]; rfl) ?_)
      repeat (refine vc_op rfl ?_; simp only [e1, go_sem, seval])
      refine vc_nil ?_
      first | refine Tr.cond (b := true) rfl (fun _ => ?_) (fun h => by cases h) | refine Tr.seq (Tr.cond (b := true) rfl (fun _ => ?_) (fun h => by cases h))
      refine Tr.skip ?_
      try simp only [blockK, thenK, ↓reduceIte]
      first | refine Tr.block ?_ | (refine Tr.seq ?_; refine Tr.block ?_)
      first | apply tr_m (by rw [hE]; rfl) | (refine Tr.seq ?_; apply tr_m (by rw [hE]; rfl))
      intro Q hQ
      simp only [List.toList_toArray, List.map_cons, List.map_nil, mo, guardSlot, Option.map_some, Option.map_none, List.getElem?_toArray, List.getElem?_cons_succ, List.getElem?_cons_zero, Option.bind_some]
      iterate 4 ((refine vm_op ?_); intro r hr; simp only [hn, go_sem, seval]; subst hr)
      exact hQ
      first | apply tr_m (by rw [hE]; rfl) | (refine Tr.seq ?_; apply tr_m (by rw [hE]; rfl))
      intro Q hQ
      simp only [List.toList_toArray, List.map_cons, List.map_nil, mo, guardSlot, Option.map_some, Option.map_none, List.getElem?_toArray, List.getElem?_cons_succ, List.getElem?_cons_zero, Option.bind_some]
      iterate 3 ((refine vm_op ?_); intro r hr; simp only [go_sem, seval]; subst hr)
      (refine vm_op ?_); intro r hr; simp only [go_sem, seval]
      refine call_fn rfl rfl rfl rfl (enters_of Tryd.func41 (by kernel_rfl) rfl) (c1) rfl rfl rfl ?_
      simp only [go_sem, seval]
      subst hr
      exact hQ
      cases x1
      · rw [Bool.false_and, if_neg (by simp)] at hnx
        first | refine Tr.cond (b := false) rfl (fun h => by cases h) (fun _ => ?_) | refine Tr.seq (Tr.cond (b := false) rfl (fun h => by cases h) (fun _ => ?_))
        refine Tr.skip ?_
        try simp only [blockK, thenK, ↓reduceIte]
        refine tr_region (by rw [hE]; rfl) ?_
        repeat (refine vc_op rfl ?_; simp only [go_sem, seval])
        refine vc_nil ?_
        rw [hw]
        try simp only [blockK, thenK, ↓reduceIte]
        refine ⟨i + 1, hlt, by omega, ?_⟩
        rw [hnx]
        refine wk_ren (fun n => n) ?_ ?_ rfl rfl rfl
        · repeat' (first | exact rfl | exact trivial | constructor)
        · repeat' (first | exact rfl | exact trivial | constructor)
      · rw [Bool.true_and] at hnx
        first | refine Tr.cond (b := true) rfl (fun _ => ?_) (fun h => by cases h) | refine Tr.seq (Tr.cond (b := true) rfl (fun _ => ?_) (fun h => by cases h))
        apply tr_ml (by rw [hE]; rfl)
        intro Q hQ
        simp only [List.toList_toArray, List.map_cons, List.map_nil, mo, guardSlot, Option.map_some, Option.map_none, List.getElem?_toArray, List.getElem?_cons_succ, List.getElem?_cons_zero, Option.bind_some]
        iterate 2 ((refine vm_op ?_); intro r hr; simp only [go_sem, seval]; subst hr)
        (refine vm_op ?_); intro r hr; simp only [go_sem, seval]
        refine call_fn rfl rfl rfl rfl (enters_of Tryd.func42 (by kernel_rfl) rfl) (c2) rfl rfl rfl ?_
        simp only [go_sem, seval]
        subst hr
        (refine vm_op ?_); intro r hr; simp only [go_sem, seval]; subst hr
        exact hQ
        try simp only [blockK, thenK, ↓reduceIte]
        refine tr_region (by rw [hE]; rfl) ?_
        repeat (refine vc_op rfl ?_; simp only [go_sem, seval])
        refine vc_nil ?_
        rw [hw]
        try simp only [blockK, thenK, ↓reduceIte]
        refine ⟨i + 1, hlt, by omega, ?_⟩
        rw [hnx]
        refine wk_ren (fun n => n) ?_ ?_ rfl rfl rfl
        · repeat' (first | exact rfl | exact trivial | constructor)
        · repeat' (first | exact rfl | exact trivial | constructor)
    · have hil : i = f.length := by omega
      rw [hil, List.take_length, ← er]
      have e1 : decide ((f.length : Int) < (f.length : Int)) = false := decide_eq_false (by omega)
      first | refine tr_seq_region (by rw [hE]; rfl) ?_ | (refine Tr.seq ?_; refine tr_seq_region (by rw [hE]; rfl) ?_)
      repeat (refine vc_op rfl ?_; simp only [e1, go_sem, seval])
      refine vc_nil ?_
      first | refine Tr.cond (b := false) rfl (fun h => by cases h) (fun _ => ?_) | refine Tr.seq (Tr.cond (b := false) rfl (fun h => by cases h) (fun _ => ?_))
      refine Tr.exit ?_
      try simp only [blockK, thenK, ↓reduceIte]
      first | refine tr_seq_region (by rw [hE]; rfl) ?_ | (refine Tr.seq ?_; refine tr_seq_region (by rw [hE]; rfl) ?_)
      repeat (refine vc_op rfl ?_; simp only [go_sem, seval])
      refine vc_nil ?_
      refine Tr.ret ?_
      simp only [Tryd.f19, go_sem, seval]

theorem slice_hi27 {l : List Check} {k : Nat} {K : AV → Prop} (hk : k ≤ l.length) (h : K (.sl ((l.take k).map Check.av) false)) : sliceK Tryd.prog 27 (.sl (l.map Check.av) false) none (some (.int .i64 k)) none K :=
  sliceK_hi tElem27 (by kernel_rfl) (fun y hy => by
    obtain ⟨b, _, rfl⟩ := List.mem_map.1 hy
    exact tSize28) (by simpa using hk) (by rw [← List.map_take]; exact h)

theorem chain_pure (t : List Node) (l : List Check) (hl : l.length ≤ 100) : Pure Tryd.prog 21 [tav t, checks l] (.bool (chainR t l)) := by
  have h1 := may_pure t
  unfold checks
  refine pure_of_tr Tryd.func21 rfl (Nat.le_of_ble_eq_true rfl) rfl fun E hE hP => ?_
  first | refine tr_seq_region (by rw [hE]; rfl) ?_ | (refine Tr.seq ?_; refine tr_seq_region (by rw [hE]; rfl) ?_)
  repeat (refine vc_op rfl ?_; simp only [go_sem, seval])
  refine vc_nil ?_
  first | refine tr_seq_region (by rw [hE]; rfl) ?_ | (refine Tr.seq ?_; refine tr_seq_region (by rw [hE]; rfl) ?_)
  repeat (refine vc_op rfl ?_; simp only [go_sem, seval])
  refine vc_nil ?_
  first | refine Tr.block ?_ | (refine Tr.seq ?_; refine Tr.block ?_)
  refine Tr.loop (fun i : Nat => (⟨[(1, .sl (l.map Check.av) false), (2, .ptr 0 [] 0), (9, .sl (l.map Check.av) false), (10, .int .i64 l.length), (11, .int .i64 i)], [(0, .var (tav t))], 1, []⟩ : S)) (fun i => i ≤ l.length ∧ chTo t l i = true) (fun i => l.length - i) 0 ⟨Nat.zero_le _, rfl⟩ ?_ ?_
  · refine wk_ren (fun n => n) ?_ ?_ rfl rfl rfl
    · repeat' (first | exact rfl | exact trivial | constructor)
    · repeat' (first | exact rfl | exact trivial | constructor)
  · intro i ⟨hi, hch⟩
    by_cases hlt : i < l.length
    · have e1 : decide ((i : Int) < (l.length : Int)) = true := decide_eq_true (by omega)
      have hn := nth_map_lt Check.av l i hlt
      have hw := wrap_next (n := i) (by omega)
      have hnx := chTo_next t l i
      rw [rowB_at hlt, hch, Bool.true_and] at hnx
      generalize hla : l[i] = a at hn hnx
      first | refine tr_seq_region (by rw [hE]; rfl) ?_ | (refine Tr.seq ?_; refine tr_seq_region (by rw [hE]; rfl) ?_)
      repeat (refine vc_op rfl ?_; simp only [e1, go_sem, seval])
      refine vc_nil ?_
      first | refine Tr.cond (b := true) rfl (fun _ => ?_) (fun h => by cases h) | refine Tr.seq (Tr.cond (b := true) rfl (fun _ => ?_) (fun h => by cases h))
      refine Tr.skip ?_
      try simp only [blockK, thenK, ↓reduceIte]
      first | refine Tr.block ?_ | (refine Tr.seq ?_; refine Tr.block ?_)
      first | apply tr_m (by rw [hE]; rfl) | (refine Tr.seq ?_; apply tr_m (by rw [hE]; rfl))
      intro Q hQ
      simp only [List.toList_toArray, List.map_cons, List.map_nil, mo, guardSlot, Option.map_some, Option.map_none, List.getElem?_toArray, List.getElem?_cons_succ, List.getElem?_cons_zero, Option.bind_some]
      iterate 6 ((refine vm_op ?_); intro r hr; simp only [hn, go_sem, seval]; subst hr)
      exact hQ
      first | apply tr_m (by rw [hE]; rfl) | (refine Tr.seq ?_; apply tr_m (by rw [hE]; rfl))
      intro Q hQ
      simp only [List.toList_toArray, List.map_cons, List.map_nil, mo, guardSlot, Option.map_some, Option.map_none, List.getElem?_toArray, List.getElem?_cons_succ, List.getElem?_cons_zero, Option.bind_some]
      iterate 2 ((refine vm_op ?_); intro r hr; simp only [go_sem, seval]; subst hr)
      (refine vm_op ?_); intro r hr; simp only [go_sem, seval]
      refine slice_hi27 (by omega) ?_
      subst hr
      iterate 2 ((refine vm_op ?_); intro r hr; simp only [go_sem, seval]; subst hr)
      exact hQ
      have hlt2 : (l.take i).length = i := by rw [List.length_take]; omega
      rw [hlt2]
      first | refine Tr.block ?_ | (refine Tr.seq ?_; refine Tr.block ?_)
      refine Tr.loop (fun k : Nat => (⟨[(1, .sl (l.map Check.av) false), (2, .ptr 0 [] 0), (6, .ptr 1 [] 0), (9, .sl (l.map Check.av) false), (10, .int .i64 l.length), (11, .int .i64 i), (18, .sl ((l.take i).map Check.av) false), (19, .int .i64 i), (20, .int .i64 k)], [(0, .var (tav t)), (1, .var a.av)], 2, []⟩ : S)) (fun k => k ≤ i ∧ inTo t l a k = true) (fun k => i - k) 0 ⟨Nat.zero_le _, rfl⟩ ?_ ?_
      · refine wk_ren (fun | 1 => 65 | n => n) ?_ ?_ rfl rfl rfl
        · repeat' (first | exact rfl | exact trivial | constructor)
        · repeat' (first | exact rfl | exact trivial | constructor)
      · intro k ⟨hk, hin0⟩
        by_cases hki : k < i
        · have e2 : decide ((k : Int) < (i : Int)) = true := decide_eq_true (by omega)
          have hw2 := wrap_next (n := k) (by omega)
          have hnk := nth_map_lt Check.av (l.take i) k (by omega)
          have hin := inTo_next (t := t) (a := a) (k := k) (l := l) (by omega)
          rw [hin0, Bool.true_and] at hin
          have htk : (l.take i)[k]'(by omega) = l[k]'(by omega) := List.getElem_take
          rw [htk] at hnk
          generalize l[k]'(by omega) = c at hnk hin
          have hS : pairB t a c = (behindB t a c || behindB t c a) := rfl
          rw [hS] at hin
          have c1 := behind_pure t a c
          have c2 := behind_pure t c a
          generalize behindB t a c = x1 at c1 hin
          generalize behindB t c a = x2 at c2 hin
          first | refine tr_seq_region (by rw [hE]; rfl) ?_ | (refine Tr.seq ?_; refine tr_seq_region (by rw [hE]; rfl) ?_)
          repeat (refine vc_op rfl ?_; simp only [e2, go_sem, seval])
          refine vc_nil ?_
          first | refine Tr.cond (b := true) rfl (fun _ => ?_) (fun h => by cases h) | refine Tr.seq (Tr.cond (b := true) rfl (fun _ => ?_) (fun h => by cases h))
          refine Tr.skip ?_
          try simp only [blockK, thenK, ↓reduceIte]
          first | refine Tr.block ?_ | (refine Tr.seq ?_; refine Tr.block ?_)
          first | apply tr_m (by rw [hE]; rfl) | (refine Tr.seq ?_; apply tr_m (by rw [hE]; rfl))
          intro Q hQ
          simp only [List.toList_toArray, List.map_cons, List.map_nil, mo, guardSlot, Option.map_some, Option.map_none, List.getElem?_toArray, List.getElem?_cons_succ, List.getElem?_cons_zero, Option.bind_some]
          iterate 4 ((refine vm_op ?_); intro r hr; simp only [hnk, go_sem, seval]; subst hr)
          exact hQ
          cases x1
          · rw [Bool.false_or] at hin
            cases x2
            · have er : chainR t l = false := by rw [chainR_eq, chTo_false (by rw [hnx]; exact inTo_false hin i hki) l.length hlt, Bool.and_false]
              first | apply tr_m (by rw [hE]; rfl) | (refine Tr.seq ?_; apply tr_m (by rw [hE]; rfl))
              intro Q hQ
              simp only [List.toList_toArray, List.map_cons, List.map_nil, mo, guardSlot, Option.map_some, Option.map_none, List.getElem?_toArray, List.getElem?_cons_succ, List.getElem?_cons_zero, Option.bind_some]
              iterate 3 ((refine vm_op ?_); intro r hr; simp only [go_sem, seval]; subst hr)
              (refine vm_op ?_); intro r hr; simp only [go_sem, seval]
              refine call_fn rfl rfl rfl rfl (enters_of Tryd.func41 (by kernel_rfl) rfl) (c1) rfl rfl rfl ?_
              simp only [go_sem, seval]
              subst hr
              iterate 2 ((refine vm_op ?_); intro r hr; simp only [go_sem, seval]; subst hr)
              iterate 3 ((first | refine vm_if rfl ?_ | refine vm_no rfl ?_ | refine vm_skip rfl ?_); intro r hr; simp only [go_sem, seval]; subst hr)
              (first | refine vm_if rfl ?_ | refine vm_no rfl ?_ | refine vm_skip rfl ?_); intro r hr; simp only [go_sem, seval]
              refine call_fn rfl rfl rfl rfl (enters_of Tryd.func41 (by kernel_rfl) rfl) (c2) rfl rfl rfl ?_
              simp only [go_sem, seval]
              subst hr
              (first | refine vm_if rfl ?_ | refine vm_no rfl ?_ | refine vm_skip rfl ?_); intro r hr; simp only [go_sem, seval]; subst hr
              (refine vm_op ?_); intro r hr; simp only [go_sem, seval]; subst hr
              exact hQ
              first | refine Tr.cond (b := true) rfl (fun _ => ?_) (fun h => by cases h) | refine Tr.seq (Tr.cond (b := true) rfl (fun _ => ?_) (fun h => by cases h))
              first | refine tr_seq_region (by rw [hE]; rfl) ?_ | (refine Tr.seq ?_; refine tr_seq_region (by rw [hE]; rfl) ?_)
              repeat (refine vc_op rfl ?_; simp only [go_sem, seval])
              refine vc_nil ?_
              refine Tr.ret ?_
              simp only [er, Tryd.f21, go_sem, seval]
            · first | apply tr_m (by rw [hE]; rfl) | (refine Tr.seq ?_; apply tr_m (by rw [hE]; rfl))
              intro Q hQ
              simp only [List.toList_toArray, List.map_cons, List.map_nil, mo, guardSlot, Option.map_some, Option.map_none, List.getElem?_toArray, List.getElem?_cons_succ, List.getElem?_cons_zero, Option.bind_some]
              iterate 3 ((refine vm_op ?_); intro r hr; simp only [go_sem, seval]; subst hr)
              (refine vm_op ?_); intro r hr; simp only [go_sem, seval]
              refine call_fn rfl rfl rfl rfl (enters_of Tryd.func41 (by kernel_rfl) rfl) (c1) rfl rfl rfl ?_
              simp only [go_sem, seval]
              subst hr
              iterate 2 ((refine vm_op ?_); intro r hr; simp only [go_sem, seval]; subst hr)
              iterate 3 ((first | refine vm_if rfl ?_ | refine vm_no rfl ?_ | refine vm_skip rfl ?_); intro r hr; simp only [go_sem, seval]; subst hr)
              (first | refine vm_if rfl ?_ | refine vm_no rfl ?_ | refine vm_skip rfl ?_); intro r hr; simp only [go_sem, seval]
              refine call_fn rfl rfl rfl rfl (enters_of Tryd.func41 (by kernel_rfl) rfl) (c2) rfl rfl rfl ?_
              simp only [go_sem, seval]
              subst hr
              (first | refine vm_if rfl ?_ | refine vm_no rfl ?_ | refine vm_skip rfl ?_); intro r hr; simp only [go_sem, seval]; subst hr
              (refine vm_op ?_); intro r hr; simp only [go_sem, seval]; subst hr
              exact hQ
              first | refine Tr.cond (b := false) rfl (fun h => by cases h) (fun _ => ?_) | refine Tr.seq (Tr.cond (b := false) rfl (fun h => by cases h) (fun _ => ?_))
              refine Tr.skip ?_
              try simp only [blockK, thenK, ↓reduceIte]
              refine tr_region (by rw [hE]; rfl) ?_
              repeat (refine vc_op rfl ?_; simp only [go_sem, seval])
              refine vc_nil ?_
              rw [hw2]
              try simp only [blockK, thenK, ↓reduceIte]
              refine ⟨k + 1, ⟨hki, hin⟩, by omega, ?_⟩
              refine wk_ren (fun n => n) ?_ ?_ rfl rfl rfl
              · repeat' (first | exact rfl | exact trivial | constructor)
              · repeat' (first | exact rfl | exact trivial | constructor)
          · rw [Bool.true_or] at hin
            first | apply tr_m (by rw [hE]; rfl) | (refine Tr.seq ?_; apply tr_m (by rw [hE]; rfl))
            intro Q hQ
            simp only [List.toList_toArray, List.map_cons, List.map_nil, mo, guardSlot, Option.map_some, Option.map_none, List.getElem?_toArray, List.getElem?_cons_succ, List.getElem?_cons_zero, Option.bind_some]
            iterate 3 ((refine vm_op ?_); intro r hr; simp only [go_sem, seval]; subst hr)
            (refine vm_op ?_); intro r hr; simp only [go_sem, seval]
            refine call_fn rfl rfl rfl rfl (enters_of Tryd.func41 (by kernel_rfl) rfl) (c1) rfl rfl rfl ?_
            simp only [go_sem, seval]
            subst hr
            iterate 2 ((refine vm_op ?_); intro r hr; simp only [go_sem, seval]; subst hr)
            iterate 5 ((first | refine vm_if rfl ?_ | refine vm_no rfl ?_ | refine vm_skip rfl ?_); intro r hr; simp only [go_sem, seval]; subst hr)
            (refine vm_op ?_); intro r hr; simp only [go_sem, seval]; subst hr
            exact hQ
            first | refine Tr.cond (b := false) rfl (fun h => by cases h) (fun _ => ?_) | refine Tr.seq (Tr.cond (b := false) rfl (fun h => by cases h) (fun _ => ?_))
            refine Tr.skip ?_
            try simp only [blockK, thenK, ↓reduceIte]
            refine tr_region (by rw [hE]; rfl) ?_
            repeat (refine vc_op rfl ?_; simp only [go_sem, seval])
            refine vc_nil ?_
            rw [hw2]
            try simp only [blockK, thenK, ↓reduceIte]
            refine ⟨k + 1, ⟨hki, hin⟩, by omega, ?_⟩
            refine wk_ren (fun n => n) ?_ ?_ rfl rfl rfl
            · repeat' (first | exact rfl | exact trivial | constructor)
            · repeat' (first | exact rfl | exact trivial | constructor)
        · have e2 : decide ((k : Int) < (i : Int)) = false := decide_eq_false (by omega)
          have hki : k = i := by omega
          subst hki
          rw [hin0] at hnx
          first | refine tr_seq_region (by rw [hE]; rfl) ?_ | (refine Tr.seq ?_; refine tr_seq_region (by rw [hE]; rfl) ?_)
          repeat (refine vc_op rfl ?_; simp only [e2, go_sem, seval])
          refine vc_nil ?_
          first | refine Tr.cond (b := false) rfl (fun h => by cases h) (fun _ => ?_) | refine Tr.seq (Tr.cond (b := false) rfl (fun h => by cases h) (fun _ => ?_))
          refine Tr.exit ?_
          try simp only [blockK, thenK, ↓reduceIte]
          refine tr_region (by rw [hE]; rfl) ?_
          repeat (refine vc_op rfl ?_; simp only [go_sem, seval])
          refine vc_nil ?_
          rw [hw]
          try simp only [blockK, thenK, ↓reduceIte]
          refine ⟨k + 1, ⟨hlt, hnx⟩, by omega, ?_⟩
          refine wk_ren (fun n => n) ?_ ?_ rfl rfl rfl
          · repeat' (first | exact rfl | exact trivial | constructor)
          · repeat' (first | exact rfl | exact trivial | constructor)
    · have e1 : decide ((i : Int) < (l.length : Int)) = false := decide_eq_false (by omega)
      have hil : i = l.length := by omega
      subst hil
      have er : chainR t l = mayB t := by rw [chainR_eq, hch, Bool.and_true]
      rw [er]
      first | refine tr_seq_region (by rw [hE]; rfl) ?_ | (refine Tr.seq ?_; refine tr_seq_region (by rw [hE]; rfl) ?_)
      repeat (refine vc_op rfl ?_; simp only [e1, go_sem, seval])
      refine vc_nil ?_
      first | refine Tr.cond (b := false) rfl (fun h => by cases h) (fun _ => ?_) | refine Tr.seq (Tr.cond (b := false) rfl (fun h => by cases h) (fun _ => ?_))
      refine Tr.exit ?_
      try simp only [blockK, thenK, ↓reduceIte]
      first | apply tr_m (by rw [hE]; rfl) | (refine Tr.seq ?_; apply tr_m (by rw [hE]; rfl))
      intro Q hQ
      simp only [List.toList_toArray, List.map_cons, List.map_nil, mo, guardSlot, Option.map_some, Option.map_none, List.getElem?_toArray, List.getElem?_cons_succ, List.getElem?_cons_zero, Option.bind_some]
      (refine vm_op ?_); intro r hr; simp only [go_sem, seval]; subst hr
      (refine vm_op ?_); intro r hr; simp only [go_sem, seval]
      refine call_fn rfl rfl rfl rfl (enters_of Tryd.func25 (by kernel_rfl) rfl) (h1) rfl rfl rfl ?_
      simp only [go_sem, seval]
      subst hr
      (refine vm_op ?_); intro r hr; simp only [go_sem, seval]; subst hr
      exact hQ
      refine Tr.ret ?_
      simp only [Tryd.f21, go_sem, seval]
