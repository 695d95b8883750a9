/- May a tree be: the program's answer, and the document's. -/
import Derived.Test.YtdlejnafhmpobaaDoorFbD
set_option linter.unusedSimpArgs false
namespace Go.Proofs.YtdlejnafhmpobaaDoor
open Go Go.Ab

def mayB (t : List Node) : Bool := decide (1 ≤ t.length) && decide (t.length ≤ 12) && (List.range t.length).all (fitsB t) && onceB t

def st34 (t : List Node) (i : Nat) : S where
  fr := [(1, .ptr 0 [] 0), (18, .int .i64 t.length), (19, .int .i64 i)]
  hp := [(0, .var (tav t))]
  nx := 1

theorem all_range {n : Nat} {p : Nat → Bool} (h : ∀ j, j < n → p j = true) : (List.range n).all p = true := List.all_eq_true.2 fun j hj => h j (List.mem_range.1 hj)
theorem not_all_range {n i : Nat} {p : Nat → Bool} (hi : i < n) (h : p i = false) : (List.range n).all p = false := by
  rw [List.all_eq_false]
  exact ⟨i, List.mem_range.2 hi, by simp [h]⟩

set_option maxRecDepth 10000 in
theorem may_pure (t : List Node) : Pure Tryd.prog 25 [tav t] (.bool (mayB t)) := by
  refine pure_of_tr Tryd.func25 rfl (Nat.le_of_ble_eq_true rfl) rfl fun E hE hP => ?_
  first | refine tr_seq_region (by rw [hE]; rfl) ?_ | (refine Tr.seq ?_; refine tr_seq_region (by rw [hE]; rfl) ?_)
  repeat (refine vc_op rfl ?_; simp only [go_sem, seval])
  refine vc_nil ?_
  by_cases h0 : t.length = 0
  · have e0 : ((t.length : Int) == 0) = true := by simp [h0]
    have er : mayB t = false := by simp [mayB, h0]
    first | apply tr_m (by rw [hE]; rfl) | (refine Tr.seq ?_; apply tr_m (by rw [hE]; rfl))
    intro Q hQ
    simp only [List.toList_toArray, List.map_cons, List.map_nil, mo, guardSlot, Option.map_some, Option.map_none, List.getElem?_toArray, List.getElem?_cons_succ, List.getElem?_cons_zero, Option.bind_some]
    iterate 5 ((refine vm_op ?_); intro r hr; simp only [e0, go_sem, seval]; subst hr)
    iterate 4 ((first | refine vm_if rfl ?_ | refine vm_no rfl ?_ | refine vm_skip rfl ?_); intro r hr; simp only [e0, go_sem, seval]; subst hr)
    (refine vm_op ?_); intro r hr; simp only [e0, go_sem, seval]; subst hr
    exact hQ
    first | refine Tr.cond (b := true) rfl (fun _ => ?_) (fun h => by cases h) | refine Tr.seq (Tr.cond (b := true) rfl (fun _ => ?_) (fun h => by cases h))
    first | refine tr_seq_region (by rw [hE]; rfl) ?_ | (refine Tr.seq ?_; refine tr_seq_region (by rw [hE]; rfl) ?_)
    repeat (refine vc_op rfl ?_; simp only [go_sem, seval])
    refine vc_nil ?_
    refine Tr.ret ?_
    simp only [er, Tryd.f25, go_sem, seval]
  · have e0 : ((t.length : Int) == 0) = false := by rw [int_beq]; exact decide_eq_false (by omega)
    by_cases h12 : 12 < t.length
    · have e1 : decide ((12 : Int) < (t.length : Int)) = true := decide_eq_true (by omega)
      have a2 : decide (t.length ≤ 12) = false := decide_eq_false (by omega)
      have er : mayB t = false := by simp [mayB, a2]
      first | apply tr_m (by rw [hE]; rfl) | (refine Tr.seq ?_; apply tr_m (by rw [hE]; rfl))
      intro Q hQ
      simp only [List.toList_toArray, List.map_cons, List.map_nil, mo, guardSlot, Option.map_some, Option.map_none, List.getElem?_toArray, List.getElem?_cons_succ, List.getElem?_cons_zero, Option.bind_some]
      iterate 5 ((refine vm_op ?_); intro r hr; simp only [e0, e1, go_sem, seval]; subst hr)
      iterate 4 ((first | refine vm_if rfl ?_ | refine vm_no rfl ?_ | refine vm_skip rfl ?_); intro r hr; simp only [e0, e1, go_sem, seval]; subst hr)
      (refine vm_op ?_); intro r hr; simp only [e0, e1, go_sem, seval]; subst hr
      exact hQ
      first | refine Tr.cond (b := true) rfl (fun _ => ?_) (fun h => by cases h) | refine Tr.seq (Tr.cond (b := true) rfl (fun _ => ?_) (fun h => by cases h))
      first | refine tr_seq_region (by rw [hE]; rfl) ?_ | (refine Tr.seq ?_; refine tr_seq_region (by rw [hE]; rfl) ?_)
      repeat (refine vc_op rfl ?_; simp only [go_sem, seval])
      refine vc_nil ?_
      refine Tr.ret ?_
      simp only [er, Tryd.f25, go_sem, seval]
    · have e1 : decide ((12 : Int) < (t.length : Int)) = false := decide_eq_false (by omega)
      have hm : mayB t = ((List.range t.length).all (fitsB t) && onceB t) := by
        have a1 : decide (1 ≤ t.length) = true := decide_eq_true (by omega)
        have a2 : decide (t.length ≤ 12) = true := decide_eq_true (by omega)
        simp [mayB, a1, a2]
      first | apply tr_m (by rw [hE]; rfl) | (refine Tr.seq ?_; apply tr_m (by rw [hE]; rfl))
      intro Q hQ
      simp only [List.toList_toArray, List.map_cons, List.map_nil, mo, guardSlot, Option.map_some, Option.map_none, List.getElem?_toArray, List.getElem?_cons_succ, List.getElem?_cons_zero, Option.bind_some]
      iterate 5 ((refine vm_op ?_); intro r hr; simp only [e0, e1, go_sem, seval]; subst hr)
      iterate 4 ((first | refine vm_if rfl ?_ | refine vm_no rfl ?_ | refine vm_skip rfl ?_); intro r hr; simp only [e0, e1, go_sem, seval]; subst hr)
      (refine vm_op ?_); intro r hr; simp only [e0, e1, go_sem, seval]; subst hr
      exact hQ
      first | refine Tr.cond rfl (fun h => by cases h) (fun _ => ?_) | refine Tr.seq (Tr.cond rfl (fun h => by cases h) (fun _ => ?_))
      refine Tr.skip ?_
      try simp only [blockK, thenK, ↓reduceIte]
      first | refine tr_seq_region (by rw [hE]; rfl) ?_ | (refine Tr.seq ?_; refine tr_seq_region (by rw [hE]; rfl) ?_)
      repeat (refine vc_op rfl ?_; simp only [go_sem, seval])
      refine vc_nil ?_
      first | refine Tr.block ?_ | (refine Tr.seq ?_; refine Tr.block ?_)
      refine Tr.loop (st34 t) (fun i => i ≤ t.length ∧ ∀ j, j < i → fitsB t j = true) (fun i => t.length - i) 0 ⟨Nat.zero_le _, fun j hj => absurd hj (Nat.not_lt_zero j)⟩ ?_ ?_
      · refine wk_ren (fun n => n) ?_ ?_ rfl rfl rfl
        · repeat' (first | exact rfl | exact trivial | constructor)
        · repeat' (first | exact rfl | exact trivial | constructor)
      · rintro i ⟨hi, hall⟩
        unfold st34
        first | refine tr_seq_region (by rw [hE]; rfl) ?_ | (refine Tr.seq ?_; refine tr_seq_region (by rw [hE]; rfl) ?_)
        repeat (refine vc_op rfl ?_; simp only [go_sem, seval])
        refine vc_nil ?_
        first | refine Tr.cond rfl (fun h1 => ?_) (fun h1 => ?_) | refine Tr.seq (Tr.cond rfl (fun h1 => ?_) (fun h1 => ?_))
        · refine Tr.skip ?_
          try simp only [blockK, thenK, ↓reduceIte]
          have hlt : i < t.length := by have := of_decide_eq_true h1; omega
          have hw := wrap_next (n := i) (by omega)
          first | refine Tr.block ?_ | (refine Tr.seq ?_; refine Tr.block ?_)
          first | refine tr_seq_region (by rw [hE]; rfl) ?_ | (refine Tr.seq ?_; refine tr_seq_region (by rw [hE]; rfl) ?_)
          repeat (refine vc_op rfl ?_; simp only [go_sem, seval])
          refine vc_nil ?_
          by_cases hf : fitsB t i = true
          · first | apply tr_m (by rw [hE]; rfl) | (refine Tr.seq ?_; apply tr_m (by rw [hE]; rfl))
            intro Q hQ
            simp only [List.toList_toArray, List.map_cons, List.map_nil, mo, guardSlot, Option.map_some, Option.map_none, List.getElem?_toArray, List.getElem?_cons_succ, List.getElem?_cons_zero, Option.bind_some]
            iterate 3 ((refine vm_op ?_); intro r hr; simp only [go_sem, seval]; subst hr)
            (refine vm_op ?_); intro r hr; simp only [go_sem, seval]
            refine call_fn rfl rfl rfl rfl (enters_of Tryd.func47 (by kernel_rfl) rfl) (fits_pure t i hlt) rfl rfl rfl ?_
            simp only [go_sem, seval]
            subst hr
            (refine vm_op ?_); intro r hr; simp only [hf, go_sem, seval]; subst hr
            exact hQ
            first | refine Tr.cond rfl (fun h => by cases h) (fun _ => ?_) | refine Tr.seq (Tr.cond rfl (fun h => by cases h) (fun _ => ?_))
            refine Tr.skip ?_
            try simp only [blockK, thenK, ↓reduceIte]
            refine tr_region (by rw [hE]; rfl) ?_
            repeat (refine vc_op rfl ?_; simp only [go_sem, seval])
            refine vc_nil ?_
            rw [hw]
            try simp only [blockK, thenK, ↓reduceIte]
            refine ⟨i + 1, ⟨hlt, fun j hj => ?_⟩, by omega, ?_⟩
            · rcases Nat.lt_or_ge j i with hj' | hj'
              · exact hall j hj'
              · rw [show j = i by omega]; exact hf
            refine wk_ren (fun n => n) ?_ ?_ rfl rfl rfl
            · repeat' (first | exact rfl | exact trivial | constructor)
            · repeat' (first | exact rfl | exact trivial | constructor)
          · have hf : fitsB t i = false := by simpa using hf
            have er : mayB t = false := by rw [hm, not_all_range hlt hf]; rfl
            first | apply tr_m (by rw [hE]; rfl) | (refine Tr.seq ?_; apply tr_m (by rw [hE]; rfl))
            intro Q hQ
            simp only [List.toList_toArray, List.map_cons, List.map_nil, mo, guardSlot, Option.map_some, Option.map_none, List.getElem?_toArray, List.getElem?_cons_succ, List.getElem?_cons_zero, Option.bind_some]
            iterate 3 ((refine vm_op ?_); intro r hr; simp only [go_sem, seval]; subst hr)
            (refine vm_op ?_); intro r hr; simp only [go_sem, seval]
            refine call_fn rfl rfl rfl rfl (enters_of Tryd.func47 (by kernel_rfl) rfl) (fits_pure t i hlt) rfl rfl rfl ?_
            simp only [go_sem, seval]
            subst hr
            (refine vm_op ?_); intro r hr; simp only [hf, go_sem, seval]; subst hr
            exact hQ
            first | refine Tr.cond (b := true) rfl (fun _ => ?_) (fun h => by cases h) | refine Tr.seq (Tr.cond (b := true) rfl (fun _ => ?_) (fun h => by cases h))
            first | refine tr_seq_region (by rw [hE]; rfl) ?_ | (refine Tr.seq ?_; refine tr_seq_region (by rw [hE]; rfl) ?_)
            repeat (refine vc_op rfl ?_; simp only [go_sem, seval])
            refine vc_nil ?_
            refine Tr.ret ?_
            simp only [er, Tryd.f25, go_sem, seval]
        · refine Tr.exit ?_
          try simp only [blockK, thenK, ↓reduceIte]
          have hil : i = t.length := by have := of_decide_eq_false h1; omega
          subst hil
          have er : mayB t = onceB t := by rw [hm, all_range hall]; rfl
          first | apply tr_m (by rw [hE]; rfl) | (refine Tr.seq ?_; apply tr_m (by rw [hE]; rfl))
          intro Q hQ
          simp only [List.toList_toArray, List.map_cons, List.map_nil, mo, guardSlot, Option.map_some, Option.map_none, List.getElem?_toArray, List.getElem?_cons_succ, List.getElem?_cons_zero, Option.bind_some]
          iterate 2 ((refine vm_op ?_); intro r hr; simp only [go_sem, seval]; subst hr)
          (refine vm_op ?_); intro r hr; simp only [go_sem, seval]
          refine call_own rfl rfl rfl rfl (enters_of Tryd.func46 (by kernel_rfl) rfl) (index_own t (by omega)) rfl rfl ?_
          simp only [go_sem, seval]
          subst hr
          iterate 5 ((refine vm_op ?_); intro r hr; simp only [go_sem, seval]; subst hr)
          exact hQ
          first | refine tr_seq_region (by rw [hE]; rfl) ?_ | (refine Tr.seq ?_; refine tr_seq_region (by rw [hE]; rfl) ?_)
          repeat (refine vc_op rfl ?_; simp only [go_sem, seval])
          refine vc_nil ?_
          refine Tr.ret ?_
          simp only [er, Tryd.f25, go_sem, seval]
