/- Lists of checkpoints. -/
import Derived.Test.YtdlejnafhmpobaaDoorFiK
set_option linter.unusedSimpArgs false
set_option maxRecDepth 10000
namespace Go.Proofs.YtdlejnafhmpobaaDoor
open Go Go.Ab

theorem mem_at {l : List Check} {c : Check} {i : Nat} (h : i < l.length) (he : l[i] = c) : decide (c ∈ l) = true := decide_eq_true (he ▸ List.getElem_mem h)
theorem mem_no {l : List Check} {c : Check} (h : ∀ j (hj : j < l.length), l[j] ≠ c) : decide (c ∈ l) = false := decide_eq_false fun hm => by
  obtain ⟨j, hj, he⟩ := List.mem_iff_getElem.1 hm
  exact h j hj he

theorem has_pure (l : List Check) (c : Check) (hl : l.length ≤ 100) : Pure Tryd.prog 22 [checks l, c.av] (.bool (decide (c ∈ l))) := by
  unfold checks
  refine pure_of_tr Tryd.func22 rfl (Nat.le_of_ble_eq_true rfl) rfl fun E hE hP => ?_
  first | refine tr_seq_region (by rw [hE]; rfl) ?_ | (refine Tr.seq ?_; refine tr_seq_region (by rw [hE]; rfl) ?_)
  repeat (refine vc_op rfl ?_; simp only [go_sem, seval])
  refine vc_nil ?_
  first | refine tr_seq_region (by rw [hE]; rfl) ?_ | (refine Tr.seq ?_; refine tr_seq_region (by rw [hE]; rfl) ?_)
  repeat (refine vc_op rfl ?_; simp only [go_sem, seval])
  refine vc_nil ?_
  first | refine Tr.block ?_ | (refine Tr.seq ?_; refine Tr.block ?_)
  refine Tr.loop (fun i : Nat => (⟨[(0, .sl (l.map Check.av) false), (3, .ptr 0 [] 0), (5, .int .i64 i)], [(0, .var c.av)], 1, []⟩ : S)) (fun i => i ≤ l.length ∧ ∀ j (hj : j < l.length), j < i → l[j] ≠ c) (fun i => l.length - i) 0 ⟨Nat.zero_le _, fun _ _ h => by omega⟩ ?_ ?_
  · refine wk_ren (fun n => n) ?_ ?_ rfl rfl rfl
    · repeat' (first | exact rfl | exact trivial | constructor)
    · repeat' (first | exact rfl | exact trivial | constructor)
  · intro i ⟨hi, hall⟩
    by_cases hlt : i < l.length
    · have e1 : decide ((i : Int) < (l.length : Int)) = true := decide_eq_true (by omega)
      have ha := nth_map_lt Check.av l i hlt
      have hw := wrap_next (n := i) (by omega)
      first | refine tr_seq_region (by rw [hE]; rfl) ?_ | (refine Tr.seq ?_; refine tr_seq_region (by rw [hE]; rfl) ?_)
      repeat (refine vc_op rfl ?_; simp only [e1, go_sem, seval])
      refine vc_nil ?_
      first | refine Tr.cond (b := true) rfl (fun _ => ?_) (fun h => by cases h) | refine Tr.seq (Tr.cond (b := true) rfl (fun _ => ?_) (fun h => by cases h))
      refine Tr.skip ?_
      try simp only [blockK, thenK, ↓reduceIte]
      first | refine Tr.block ?_ | (refine Tr.seq ?_; refine Tr.block ?_)
      cases hb : decide (l[i] = c) with
      | true =>
        have er := mem_at hlt (of_decide_eq_true hb)
        first | apply tr_md mixed [0] rfl (by rw [hE]; rfl) (by kernel_rfl) | (refine Tr.seq ?_; apply tr_md mixed [0] rfl (by rw [hE]; rfl) (by kernel_rfl))
        intro Q hQ
        simp only [List.toList_toArray, List.map_cons, List.map_nil, mo, guardSlot, Option.map_some, Option.map_none, List.getElem?_toArray, List.getElem?_cons_succ, List.getElem?_cons_zero, Option.bind_some]
        iterate 6 ((refine vd2_q rfl ?_); intro r hr; simp only [ha, hb, go_sem, seval]; subst hr)
        exact hQ
        first | refine Tr.cond (b := true) rfl (fun _ => ?_) (fun h => by cases h) | refine Tr.seq (Tr.cond (b := true) rfl (fun _ => ?_) (fun h => by cases h))
        first | refine tr_seq_region (by rw [hE]; rfl) ?_ | (refine Tr.seq ?_; refine tr_seq_region (by rw [hE]; rfl) ?_)
        repeat (refine vc_op rfl ?_; simp only [go_sem, seval])
        refine vc_nil ?_
        refine Tr.ret ?_
        simp only [er, Tryd.f22, go_sem, seval]
      | false =>
        first | apply tr_md mixed [0] rfl (by rw [hE]; rfl) (by kernel_rfl) | (refine Tr.seq ?_; apply tr_md mixed [0] rfl (by rw [hE]; rfl) (by kernel_rfl))
        intro Q hQ
        simp only [List.toList_toArray, List.map_cons, List.map_nil, mo, guardSlot, Option.map_some, Option.map_none, List.getElem?_toArray, List.getElem?_cons_succ, List.getElem?_cons_zero, Option.bind_some]
        iterate 6 ((refine vd2_q rfl ?_); intro r hr; simp only [ha, hb, go_sem, seval]; subst hr)
        exact hQ
        first | refine Tr.cond (b := false) rfl (fun h => by cases h) (fun _ => ?_) | refine Tr.seq (Tr.cond (b := false) rfl (fun h => by cases h) (fun _ => ?_))
        refine Tr.skip ?_
        try simp only [blockK, thenK, ↓reduceIte]
        refine tr_region (by rw [hE]; rfl) ?_
        repeat (refine vc_op rfl ?_; simp only [go_sem, seval])
        refine vc_nil ?_
        rw [hw]
        try simp only [blockK, thenK, ↓reduceIte]
        refine ⟨i + 1, ⟨hlt, fun j hj hjl => ?_⟩, by omega, ?_⟩
        · rcases Nat.lt_or_ge j i with h | h
          · exact hall j hj h
          · have : j = i := by omega
            subst this; exact of_decide_eq_false hb
        refine wk_ren (fun n => n) ?_ ?_ rfl rfl rfl
        · repeat' (first | exact rfl | exact trivial | constructor)
        · repeat' (first | exact rfl | exact trivial | constructor)
    · have e1 : decide ((i : Int) < (l.length : Int)) = false := decide_eq_false (by omega)
      have er := mem_no (l := l) (c := c) fun j hj => hall j hj (by omega)
      first | refine tr_seq_region (by rw [hE]; rfl) ?_ | (refine Tr.seq ?_; refine tr_seq_region (by rw [hE]; rfl) ?_)
      repeat (refine vc_op rfl ?_; simp only [e1, go_sem, seval])
      refine vc_nil ?_
      first | refine Tr.cond (b := false) rfl (fun h => by cases h) (fun _ => ?_) | refine Tr.seq (Tr.cond (b := false) rfl (fun h => by cases h) (fun _ => ?_))
      refine Tr.exit ?_
      try simp only [blockK, thenK, ↓reduceIte]
      first | refine tr_seq_region (by rw [hE]; rfl) ?_ | (refine Tr.seq ?_; refine tr_seq_region (by rw [hE]; rfl) ?_)
      repeat (refine vc_op rfl ?_; simp only [go_sem, seval])
      refine vc_nil ?_
      refine Tr.ret ?_
      simp only [er, Tryd.f22, go_sem, seval]

def cidx (l : List Check) (c : Check) : Int := match l.findIdx? (fun x => decide (c = x)) with | some i => (i : Int) | none => -1
theorem cidx_at {l : List Check} {c : Check} {i : Nat} (h : i < l.length) (hb : ∀ j (hj : j < l.length), j < i → c ≠ l[j]) (hi : c = l[i]) : cidx l c = i := by
  have : l.findIdx? (fun x => decide (c = x)) = some i := by
    rw [List.findIdx?_eq_some_iff_getElem]
    exact ⟨h, decide_eq_true hi, fun j hj => by simpa using hb j (by omega) hj⟩
  rw [cidx, this]
theorem cidx_none {l : List Check} {c : Check} (hb : ∀ j (hj : j < l.length), c ≠ l[j]) : cidx l c = -1 := by
  have : l.findIdx? (fun x => decide (c = x)) = none := by
    rw [List.findIdx?_eq_none_iff]
    intro x hx
    obtain ⟨j, hj, rfl⟩ := List.mem_iff_getElem.1 hx
    exact decide_eq_false (hb j hj)
  rw [cidx, this]
theorem cidx_mem (l : List Check) (c : Check) : decide (0 ≤ cidx l c) = decide (c ∈ l) := by
  unfold cidx
  cases h : l.findIdx? (fun x => decide (c = x)) with
  | none =>
    have := List.findIdx?_eq_none_iff.1 h
    rw [decide_eq_false (p := c ∈ l) (fun hm => by simpa using this c hm)]
    rfl
  | some i =>
    obtain ⟨h1, h2, _⟩ := List.findIdx?_eq_some_iff_getElem.1 h
    rw [mem_at h1 (of_decide_eq_true h2).symm]
    simp

theorem cindex_pure (l : List Check) (c : Check) (hl : l.length ≤ 100) : Pure Tryd.prog 63 [checks l, c.av] (.int .i64 (cidx l c)) := by
  unfold checks
  refine pure_of_tr Tryd.func63 rfl (Nat.le_of_ble_eq_true rfl) rfl fun E hE hP => ?_
  first | refine tr_seq_region (by rw [hE]; rfl) ?_ | (refine Tr.seq ?_; refine tr_seq_region (by rw [hE]; rfl) ?_)
  repeat (refine vc_op rfl ?_; simp only [go_sem, seval])
  refine vc_nil ?_
  first | refine tr_seq_region (by rw [hE]; rfl) ?_ | (refine Tr.seq ?_; refine tr_seq_region (by rw [hE]; rfl) ?_)
  repeat (refine vc_op rfl ?_; simp only [go_sem, seval])
  refine vc_nil ?_
  first | refine Tr.block ?_ | (refine Tr.seq ?_; refine Tr.block ?_)
  refine Tr.loop (fun i : Nat => (⟨[(0, .sl (l.map Check.av) false), (3, .ptr 0 [] 0), (7, .int .i64 l.length), (8, .int .i64 i)], [(0, .var c.av)], 1, []⟩ : S)) (fun i => i ≤ l.length ∧ ∀ j (hj : j < l.length), j < i → c ≠ l[j]) (fun i => l.length - i) 0 ⟨Nat.zero_le _, fun _ _ h => by omega⟩ ?_ ?_
  · refine wk_ren (fun n => n) ?_ ?_ rfl rfl rfl
    · repeat' (first | exact rfl | exact trivial | constructor)
    · repeat' (first | exact rfl | exact trivial | constructor)
  · intro i ⟨hi, hall⟩
    by_cases hlt : i < l.length
    · have e1 : decide ((i : Int) < (l.length : Int)) = true := decide_eq_true (by omega)
      have ha := nth_map_lt Check.av l i hlt
      have hw := wrap_next (n := i) (by omega)
      first | refine tr_seq_region (by rw [hE]; rfl) ?_ | (refine Tr.seq ?_; refine tr_seq_region (by rw [hE]; rfl) ?_)
      repeat (refine vc_op rfl ?_; simp only [e1, go_sem, seval])
      refine vc_nil ?_
      first | refine Tr.cond (b := true) rfl (fun _ => ?_) (fun h => by cases h) | refine Tr.seq (Tr.cond (b := true) rfl (fun _ => ?_) (fun h => by cases h))
      refine Tr.skip ?_
      try simp only [blockK, thenK, ↓reduceIte]
      first | refine Tr.block ?_ | (refine Tr.seq ?_; refine Tr.block ?_)
      first | refine tr_seq_region (by rw [hE]; rfl) ?_ | (refine Tr.seq ?_; refine tr_seq_region (by rw [hE]; rfl) ?_)
      repeat (refine vc_op rfl ?_; simp only [go_sem, seval])
      refine vc_nil ?_
      cases hb : decide (c = l[i]) with
      | true =>
        have er := cidx_at hlt hall (of_decide_eq_true hb)
        first | apply tr_md mixed [0] rfl (by rw [hE]; rfl) (by kernel_rfl) | (refine Tr.seq ?_; apply tr_md mixed [0] rfl (by rw [hE]; rfl) (by kernel_rfl))
        intro Q hQ
        simp only [List.toList_toArray, List.map_cons, List.map_nil, mo, guardSlot, Option.map_some, Option.map_none, List.getElem?_toArray, List.getElem?_cons_succ, List.getElem?_cons_zero, Option.bind_some]
        iterate 6 ((refine vd2_q rfl ?_); intro r hr; simp only [ha, hb, go_sem, seval]; subst hr)
        exact hQ
        first | refine Tr.cond (b := true) rfl (fun _ => ?_) (fun h => by cases h) | refine Tr.seq (Tr.cond (b := true) rfl (fun _ => ?_) (fun h => by cases h))
        first | refine tr_seq_region (by rw [hE]; rfl) ?_ | (refine Tr.seq ?_; refine tr_seq_region (by rw [hE]; rfl) ?_)
        repeat (refine vc_op rfl ?_; simp only [go_sem, seval])
        refine vc_nil ?_
        refine Tr.ret ?_
        simp only [er, Tryd.f63, go_sem, seval]
      | false =>
        first | apply tr_md mixed [0] rfl (by rw [hE]; rfl) (by kernel_rfl) | (refine Tr.seq ?_; apply tr_md mixed [0] rfl (by rw [hE]; rfl) (by kernel_rfl))
        intro Q hQ
        simp only [List.toList_toArray, List.map_cons, List.map_nil, mo, guardSlot, Option.map_some, Option.map_none, List.getElem?_toArray, List.getElem?_cons_succ, List.getElem?_cons_zero, Option.bind_some]
        iterate 6 ((refine vd2_q rfl ?_); intro r hr; simp only [ha, hb, go_sem, seval]; subst hr)
        exact hQ
        first | refine Tr.cond (b := false) rfl (fun h => by cases h) (fun _ => ?_) | refine Tr.seq (Tr.cond (b := false) rfl (fun h => by cases h) (fun _ => ?_))
        refine Tr.skip ?_
        try simp only [blockK, thenK, ↓reduceIte]
        refine tr_region (by rw [hE]; rfl) ?_
        repeat (refine vc_op rfl ?_; simp only [go_sem, seval])
        refine vc_nil ?_
        rw [hw]
        try simp only [blockK, thenK, ↓reduceIte]
        refine ⟨i + 1, ⟨hlt, fun j hj hjl => ?_⟩, by omega, ?_⟩
        · rcases Nat.lt_or_ge j i with h | h
          · exact hall j hj h
          · have : j = i := by omega
            subst this; exact of_decide_eq_false hb
        refine wk_ren (fun n => n) ?_ ?_ rfl rfl rfl
        · repeat' (first | exact rfl | exact trivial | constructor)
        · repeat' (first | exact rfl | exact trivial | constructor)
    · have e1 : decide ((i : Int) < (l.length : Int)) = false := decide_eq_false (by omega)
      have er := cidx_none (l := l) (c := c) fun j hj => hall j hj (by omega)
      first | refine tr_seq_region (by rw [hE]; rfl) ?_ | (refine Tr.seq ?_; refine tr_seq_region (by rw [hE]; rfl) ?_)
      repeat (refine vc_op rfl ?_; simp only [e1, go_sem, seval])
      refine vc_nil ?_
      first | refine Tr.cond (b := false) rfl (fun h => by cases h) (fun _ => ?_) | refine Tr.seq (Tr.cond (b := false) rfl (fun h => by cases h) (fun _ => ?_))
      refine Tr.exit ?_
      try simp only [blockK, thenK, ↓reduceIte]
      first | refine tr_seq_region (by rw [hE]; rfl) ?_ | (refine Tr.seq ?_; refine tr_seq_region (by rw [hE]; rfl) ?_)
      repeat (refine vc_op rfl ?_; simp only [go_sem, seval])
      refine vc_nil ?_
      refine Tr.ret ?_
      simp only [er, Tryd.f63, go_sem, seval]
theorem ccontains_pure (l : List Check) (c : Check) (hl : l.length ≤ 100) : Pure Tryd.prog 37 [checks l, c.av] (.bool (decide (c ∈ l))) := by
  have er := cidx_mem l c
  refine pure_of_tr Tryd.func37 rfl (Nat.le_of_ble_eq_true rfl) rfl fun E hE hP => ?_
  first | refine tr_seq_region (by rw [hE]; rfl) ?_ | (refine Tr.seq ?_; refine tr_seq_region (by rw [hE]; rfl) ?_)
  repeat (refine vc_op rfl ?_; simp only [go_sem, seval])
  refine vc_nil ?_
  first | apply tr_m (by rw [hE]; rfl) | (refine Tr.seq ?_; apply tr_m (by rw [hE]; rfl))
  intro Q hQ
  simp only [List.toList_toArray, List.map_cons, List.map_nil, mo, guardSlot, Option.map_some, Option.map_none, List.getElem?_toArray, List.getElem?_cons_succ, List.getElem?_cons_zero, Option.bind_some]
  iterate 2 ((refine vm_op ?_); intro r hr; simp only [go_sem, seval]; subst hr)
  (refine vm_op ?_); intro r hr; simp only [go_sem, seval]
  refine call_fn rfl rfl rfl rfl (enters_of Tryd.func63 (by kernel_rfl) rfl) (cindex_pure l c hl) rfl rfl rfl ?_
  simp only [go_sem, seval]
  subst hr
  iterate 2 ((refine vm_op ?_); intro r hr; simp only [go_sem, seval]; subst hr)
  exact hQ
  refine Tr.ret ?_
  simp only [er, Tryd.f37, go_sem, seval]

theorem csame_pure (l k : List Check) (hl : l.length ≤ 100) : Pure Tryd.prog 11 [checks l, checks k] (.bool (decide (l = k))) := by
  unfold checks
  refine pure_of_tr Tryd.func11 rfl (Nat.le_of_ble_eq_true rfl) rfl fun E hE hP => ?_
  first | refine tr_seq_region (by rw [hE]; rfl) ?_ | (refine Tr.seq ?_; refine tr_seq_region (by rw [hE]; rfl) ?_)
  repeat (refine vc_op rfl ?_; simp only [go_sem, seval])
  refine vc_nil ?_
  by_cases hne : l.length = k.length
  · have e0 : ((l.length : Int) != (k.length : Int)) = false := by rw [int_bne, decide_eq_true (by omega)]; rfl
    first | apply tr_m (by rw [hE]; rfl) | (refine Tr.seq ?_; apply tr_m (by rw [hE]; rfl))
    intro Q hQ
    simp only [List.toList_toArray, List.map_cons, List.map_nil, mo, guardSlot, Option.map_some, Option.map_none, List.getElem?_toArray, List.getElem?_cons_succ, List.getElem?_cons_zero, Option.bind_some]
    iterate 5 ((refine vm_op ?_); intro r hr; simp only [List.length_map, e0, go_sem, seval]; subst hr)
    exact hQ
    first | refine Tr.cond rfl (fun h => by cases h) (fun _ => ?_) | refine Tr.seq (Tr.cond rfl (fun h => by cases h) (fun _ => ?_))
    refine Tr.skip ?_
    try simp only [blockK, thenK, ↓reduceIte]
    first | refine tr_seq_region (by rw [hE]; rfl) ?_ | (refine Tr.seq ?_; refine tr_seq_region (by rw [hE]; rfl) ?_)
    repeat (refine vc_op rfl ?_; simp only [go_sem, seval])
    refine vc_nil ?_
    first | refine Tr.block ?_ | (refine Tr.seq ?_; refine Tr.block ?_)
    refine Tr.loop (fun i : Nat => (⟨[(0, .sl (l.map Check.av) false), (1, .sl (k.map Check.av) false), (5, .int .i64 i)], [], 0, []⟩ : S)) (fun i => i ≤ l.length ∧ ∀ j (h1 : j < l.length) (h2 : j < k.length), j < i → l[j] = k[j]) (fun i => l.length - i) 0 ⟨Nat.zero_le _, fun _ _ _ h => by omega⟩ ?_ ?_
    · refine wk_ren (fun n => n) ?_ ?_ rfl rfl rfl
      · repeat' (first | exact rfl | exact trivial | constructor)
      · repeat' (first | exact rfl | exact trivial | constructor)
    · intro i ⟨hi, hall⟩
      by_cases hlt : i < l.length
      · have e1 : decide ((i : Int) < (l.length : Int)) = true := decide_eq_true (by omega)
        have ha := nth_map_lt Check.av l i hlt
        have hc := nth_map_lt Check.av k i (by omega)
        have hw := wrap_next (n := i) (by omega)
        first | refine tr_seq_region (by rw [hE]; rfl) ?_ | (refine Tr.seq ?_; refine tr_seq_region (by rw [hE]; rfl) ?_)
        repeat (refine vc_op rfl ?_; simp only [e1, go_sem, seval])
        refine vc_nil ?_
        first | refine Tr.cond (b := true) rfl (fun _ => ?_) (fun h => by cases h) | refine Tr.seq (Tr.cond (b := true) rfl (fun _ => ?_) (fun h => by cases h))
        refine Tr.skip ?_
        try simp only [blockK, thenK, ↓reduceIte]
        first | refine Tr.block ?_ | (refine Tr.seq ?_; refine Tr.block ?_)
        cases hb : decide (l[i] = k[i]'(by omega)) with
        | false =>
          have er : decide (l = k) = false := decide_eq_false fun h => by
            subst h
            exact of_decide_eq_false hb rfl
          first | apply tr_md mixed [] rfl (by rw [hE]; rfl) (by kernel_rfl) | (refine Tr.seq ?_; apply tr_md mixed [] rfl (by rw [hE]; rfl) (by kernel_rfl))
          intro Q hQ
          simp only [List.toList_toArray, List.map_cons, List.map_nil, mo, guardSlot, Option.map_some, Option.map_none, List.getElem?_toArray, List.getElem?_cons_succ, List.getElem?_cons_zero, Option.bind_some]
          iterate 9 ((refine vd2_q rfl ?_); intro r hr; simp only [ha, hc, hb, go_sem, seval]; subst hr)
          exact hQ
          first | refine Tr.cond (b := true) rfl (fun _ => ?_) (fun h => by cases h) | refine Tr.seq (Tr.cond (b := true) rfl (fun _ => ?_) (fun h => by cases h))
          first | refine tr_seq_region (by rw [hE]; rfl) ?_ | (refine Tr.seq ?_; refine tr_seq_region (by rw [hE]; rfl) ?_)
          repeat (refine vc_op rfl ?_; simp only [go_sem, seval])
          refine vc_nil ?_
          refine Tr.ret ?_
          simp only [er, Tryd.f11, go_sem, seval]
        | true =>
          first | apply tr_md mixed [] rfl (by rw [hE]; rfl) (by kernel_rfl) | (refine Tr.seq ?_; apply tr_md mixed [] rfl (by rw [hE]; rfl) (by kernel_rfl))
          intro Q hQ
          simp only [List.toList_toArray, List.map_cons, List.map_nil, mo, guardSlot, Option.map_some, Option.map_none, List.getElem?_toArray, List.getElem?_cons_succ, List.getElem?_cons_zero, Option.bind_some]
          iterate 9 ((refine vd2_q rfl ?_); intro r hr; simp only [ha, hc, hb, go_sem, seval]; subst hr)
          exact hQ
          first | refine Tr.cond (b := false) rfl (fun h => by cases h) (fun _ => ?_) | refine Tr.seq (Tr.cond (b := false) rfl (fun h => by cases h) (fun _ => ?_))
          refine Tr.skip ?_
          try simp only [blockK, thenK, ↓reduceIte]
          refine tr_region (by rw [hE]; rfl) ?_
          repeat (refine vc_op rfl ?_; simp only [go_sem, seval])
          refine vc_nil ?_
          rw [hw]
          try simp only [blockK, thenK, ↓reduceIte]
          refine ⟨i + 1, ⟨hlt, fun j h1 h2 hjl => ?_⟩, by omega, ?_⟩
          · rcases Nat.lt_or_ge j i with h | h
            · exact hall j h1 h2 h
            · have : j = i := by omega
              subst this; exact of_decide_eq_true hb
          refine wk_ren (fun n => n) ?_ ?_ rfl rfl rfl
          · repeat' (first | exact rfl | exact trivial | constructor)
          · repeat' (first | exact rfl | exact trivial | constructor)
      · have e1 : decide ((i : Int) < (l.length : Int)) = false := decide_eq_false (by omega)
        have er : decide (l = k) = true := decide_eq_true (List.ext_getElem hne fun j h1 h2 => hall j h1 h2 (by omega))
        first | refine tr_seq_region (by rw [hE]; rfl) ?_ | (refine Tr.seq ?_; refine tr_seq_region (by rw [hE]; rfl) ?_)
        repeat (refine vc_op rfl ?_; simp only [e1, go_sem, seval])
        refine vc_nil ?_
        first | refine Tr.cond (b := false) rfl (fun h => by cases h) (fun _ => ?_) | refine Tr.seq (Tr.cond (b := false) rfl (fun h => by cases h) (fun _ => ?_))
        refine Tr.exit ?_
        try simp only [blockK, thenK, ↓reduceIte]
        first | refine tr_seq_region (by rw [hE]; rfl) ?_ | (refine Tr.seq ?_; refine tr_seq_region (by rw [hE]; rfl) ?_)
        repeat (refine vc_op rfl ?_; simp only [go_sem, seval])
        refine vc_nil ?_
        refine Tr.ret ?_
        simp only [er, Tryd.f11, go_sem, seval]
  · have e0 : ((l.length : Int) != (k.length : Int)) = true := by rw [int_bne, decide_eq_false (by omega)]; rfl
    have er : decide (l = k) = false := decide_eq_false fun h => hne (by rw [h])
    first | apply tr_m (by rw [hE]; rfl) | (refine Tr.seq ?_; apply tr_m (by rw [hE]; rfl))
    intro Q hQ
    simp only [List.toList_toArray, List.map_cons, List.map_nil, mo, guardSlot, Option.map_some, Option.map_none, List.getElem?_toArray, List.getElem?_cons_succ, List.getElem?_cons_zero, Option.bind_some]
    iterate 5 ((refine vm_op ?_); intro r hr; simp only [List.length_map, e0, go_sem, seval]; subst hr)
    exact hQ
    first | refine Tr.cond (b := true) rfl (fun _ => ?_) (fun h => by cases h) | refine Tr.seq (Tr.cond (b := true) rfl (fun _ => ?_) (fun h => by cases h))
    first | refine tr_seq_region (by rw [hE]; rfl) ?_ | (refine Tr.seq ?_; refine tr_seq_region (by rw [hE]; rfl) ?_)
    repeat (refine vc_op rfl ?_; simp only [go_sem, seval])
    refine vc_nil ?_
    refine Tr.ret ?_
    simp only [er, Tryd.f11, go_sem, seval]

theorem lens_checks (l : List Check) : ∀ z ∈ l.map Check.av, z.len = 33 := fun z hz => by
  obtain ⟨a, _, rfl⟩ := List.mem_map.1 hz
  rfl
theorem cclone_own (l : List Check) (hl : l.length ≤ 100) : Own Tryd.prog 32 [checks l] (.ms 0 33 l.length) [(0, .row 33 (l.map Check.av))] := by
  unfold checks
  refine own_of_tr Tryd.func32 rfl (Nat.le_of_ble_eq_true rfl) rfl fun E hE hP => ?_
  first | refine tr_seq_region (by rw [hE]; rfl) ?_ | (refine Tr.seq ?_; refine tr_seq_region (by rw [hE]; rfl) ?_)
  repeat (refine vc_op rfl ?_; simp only [go_sem, seval])
  refine vc_nil ?_
  first | refine tr_seq_region (by rw [hE]; rfl) ?_ | (refine Tr.seq ?_; refine tr_seq_region (by rw [hE]; rfl) ?_)
  repeat (refine vc_op rfl ?_; simp only [go_sem, seval])
  refine ⟨fun hz c => ?_, fun hz => ?_⟩
  · have hz' : l = [] := List.eq_nil_of_length_eq_zero hz
    subst hz'
    refine vc_nil ?_
    refine Tr.cond rfl (fun hc => ?_) (fun hc => ?_)
    · first | refine tr_seq_region (by rw [hE]; rfl) ?_ | (refine Tr.seq ?_; refine tr_seq_region (by rw [hE]; rfl) ?_)
      repeat (refine vc_op rfl ?_; simp only [go_sem, seval])
      refine vc_nil ?_
      refine Tr.wk (Wk.nil 2 33 rfl) ?_
      refine Tr.ret ?_
      simp only [Tryd.f32, go_sem, seval]
      exact ⟨fun n => 64 + n, rfl, ⟨⟨rfl, rfl, rfl⟩, trivial⟩, rfl⟩
    · refine Tr.skip ?_
      simp only [thenK]
      first | refine tr_seq_region (by rw [hE]; rfl) ?_ | (refine Tr.seq ?_; refine tr_seq_region (by rw [hE]; rfl) ?_)
      repeat (refine vc_op rfl ?_; simp only [go_sem, seval])
      refine vc_nil ?_
      refine Tr.ret ?_
      simp only [Tryd.f32, go_sem, seval]
      exact ⟨fun n => 80 + n, rfl, ⟨⟨rfl, rfl, rfl⟩, trivial⟩, rfl⟩
  · refine vc_nil ?_
    refine Tr.cond rfl (fun hc => by cases hc) (fun hc => ?_)
    refine Tr.skip ?_
    simp only [thenK]
    first | refine tr_seq_region (by rw [hE]; rfl) ?_ | (refine Tr.seq ?_; refine tr_seq_region (by rw [hE]; rfl) ?_)
    repeat (refine vc_op rfl ?_; simp only [go_sem, seval])
    refine ⟨lens_checks l, by omega, by omega, .inl trivial, ?_⟩
    repeat (refine vc_op rfl ?_; simp only [go_sem, seval])
    refine vc_nil ?_
    refine Tr.ret ?_
    simp only [Tryd.f32, go_sem, seval]
    exact ⟨fun n => 80 + n, rfl, ⟨⟨rfl, rfl, rfl⟩, trivial⟩, rfl⟩
