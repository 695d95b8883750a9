/- The document's answer: may a tree be. -/
import Derived.Test.YtdlejnafhmpobaaDoorFbE
set_option linter.unusedSimpArgs false
namespace Go.Proofs.YtdlejnafhmpobaaDoor
open Go Go.Ab

def freshB (t : List Node) (i : Nat) : Bool := (List.range i).all fun k => decide ((t.getD k zNode).root ≠ (t.getD i zNode).root)
def refmayB (t : List Node) : Bool := (List.range t.length).all (fun i => fitsB t i && freshB t i) && (decide (1 ≤ t.length) && decide (t.length ≤ 12))

theorem once_fresh (t : List Node) : onceB t = (List.range t.length).all (freshB t) := by
  rw [Bool.eq_iff_iff]
  unfold onceB freshB
  rw [decide_eq_true_iff, List.all_eq_true, List.Nodup, List.pairwise_iff_getElem]
  constructor
  · intro h i hi
    rw [List.all_eq_true]
    intro k hk
    have hi := List.mem_range.1 hi
    have hk := List.mem_range.1 hk
    have := h k i (by simp; omega) (by simp; omega) hk
    simp only [List.getElem_map] at this
    rw [decide_eq_true_iff]
    simpa [show k < t.length by omega, hi] using this
  · intro h i j h1 h2 hij
    simp only [List.length_map] at h1 h2
    have := List.all_eq_true.1 (h j (List.mem_range.2 h2)) i (List.mem_range.2 hij)
    rw [decide_eq_true_iff] at this
    simpa [h1, h2] using this

theorem all_and' {α : Type} (l : List α) (p q : α → Bool) : (l.all fun x => p x && q x) = (l.all p && l.all q) := by
  induction l with
  | nil => rfl
  | cons a l ih => simp only [List.all_cons, ih]; cases p a <;> cases q a <;> cases l.all p <;> rfl

theorem refmay_eq (t : List Node) : refmayB t = mayB t := by
  unfold refmayB mayB
  rw [once_fresh, all_and']
  cases decide (1 ≤ t.length) <;> cases decide (t.length ≤ 12) <;> cases (List.range t.length).all (fitsB t) <;> cases (List.range t.length).all (freshB t) <;> rfl

def st62_0 (t : List Node) (i : Nat) : S where
  fr := [(1, .ptr 0 [] 0), (3, .int .i64 i)]
  hp := [(0, .var (tav t))]
  nx := 1
def st62_1 (t : List Node) (n : Node) (i k : Nat) : S where
  fr := [(1, .ptr 0 [] 0), (3, .int .i64 i), (4, .ptr 1 [] 0), (5, .int .i64 k)]
  hp := [(0, .var (tav t)), (1, .var n.av)]
  nx := 2

set_option maxRecDepth 10000 in
theorem refmay_pure (t : List Node) (hl : t.length ≤ 100) : Pure Tryd.prog 39 [tav t] (.bool (refmayB t)) := by
  refine pure_of_tr Tryd.func39 rfl (Nat.le_of_ble_eq_true rfl) rfl fun E hE hP => ?_
  first | refine tr_seq_region (by rw [hE]; rfl) ?_ | (refine Tr.seq ?_; refine tr_seq_region (by rw [hE]; rfl) ?_)
  repeat (refine vc_op rfl ?_; simp only [go_sem, seval])
  refine vc_nil ?_
  first | refine tr_seq_region (by rw [hE]; rfl) ?_ | (refine Tr.seq ?_; refine tr_seq_region (by rw [hE]; rfl) ?_)
  repeat (refine vc_op rfl ?_; simp only [go_sem, seval])
  refine vc_nil ?_
  first | refine Tr.block ?_ | (refine Tr.seq ?_; refine Tr.block ?_)
  refine Tr.loop (st62_0 t) (fun i => i ≤ t.length ∧ ∀ j, j < i → (fitsB t j && freshB t j) = true) (fun i => t.length - i) 0 ⟨Nat.zero_le _, fun j hj => absurd hj (Nat.not_lt_zero j)⟩ ?_ ?_
  · refine wk_ren (fun n => n) ?_ ?_ rfl rfl rfl
    · repeat' (first | exact rfl | exact trivial | constructor)
    · repeat' (first | exact rfl | exact trivial | constructor)
  · rintro i ⟨hi, hall⟩
    unfold st62_0
    first | refine tr_seq_region (by rw [hE]; rfl) ?_ | (refine Tr.seq ?_; refine tr_seq_region (by rw [hE]; rfl) ?_)
    repeat (refine vc_op rfl ?_; simp only [go_sem, seval])
    refine vc_nil ?_
    first | refine Tr.cond rfl (fun h1 => ?_) (fun h1 => ?_) | refine Tr.seq (Tr.cond rfl (fun h1 => ?_) (fun h1 => ?_))
    · refine Tr.skip ?_
      try simp only [blockK, thenK, ↓reduceIte]
      have hlt : i < t.length := by have := of_decide_eq_true h1; omega
      have hw := wrap_next (n := i) (by omega)
      have ha := nth_map_lt Node.av t i hlt
      have hf : fitsB t i = (if i = 0 then decide (t[i].parent = -1) && decide (t[i].slot ≤ 1099511627776)
        else decide (0 ≤ t[i].parent) && decide (t[i].parent < i) && decide (t[i].slot ≤ 1099511627776) && decide ((t.getD t[i].parent.toNat zNode).slot < t[i].slot)) := by
        simp [fitsB, hlt]
      have hgd : t.getD i zNode = t[i] := by simp [hlt]
      have hfresh : freshB t i = (List.range i).all fun k => decide ((t.getD k zNode).root ≠ t[i].root) := by rw [← hgd]; rfl
      generalize t[i] = n at ha hf hgd hfresh
      have hbad : (fitsB t i && freshB t i) = false → refmayB t = false := fun h => by
        unfold refmayB; rw [not_all_range hlt h]; rfl
      first | refine Tr.block ?_ | (refine Tr.seq ?_; refine Tr.block ?_)
      first | refine tr_seq_region (by rw [hE]; rfl) ?_ | (refine Tr.seq ?_; refine tr_seq_region (by rw [hE]; rfl) ?_)
      repeat (refine vc_op rfl ?_; simp only [ha, go_sem, seval])
      refine vc_nil ?_
      by_cases hs : 1099511627776 < n.slot
      · have es : decide (1099511627776 < n.slot) = true := decide_eq_true hs
        have er : refmayB t = false := hbad (by
          have : decide (n.slot ≤ 1099511627776) = false := decide_eq_false (by omega)
          rw [hf, this]; split <;> simp)
        first | apply tr_m (by rw [hE]; rfl) | (refine Tr.seq ?_; apply tr_m (by rw [hE]; rfl))
        intro Q hQ
        simp only [List.toList_toArray, List.map_cons, List.map_nil, mo, guardSlot, Option.map_some, Option.map_none, List.getElem?_toArray, List.getElem?_cons_succ, List.getElem?_cons_zero, Option.bind_some]
        iterate 4 ((refine vm_op ?_); intro r hr; simp only [es, go_sem, seval]; subst hr)
        iterate 7 ((first | refine vm_if rfl ?_ | refine vm_no rfl ?_ | refine vm_skip rfl ?_); intro r hr; simp only [es, go_sem, seval]; subst hr)
        iterate 2 ((refine vm_op ?_); intro r hr; simp only [es, go_sem, seval]; subst hr)
        iterate 13 ((first | refine vm_if rfl ?_ | refine vm_no rfl ?_ | refine vm_skip rfl ?_); intro r hr; simp only [es, go_sem, seval]; subst hr)
        (refine vm_op ?_); intro r hr; simp only [es, go_sem, seval]; subst hr
        exact hQ
        first | refine Tr.cond (b := true) rfl (fun _ => ?_) (fun h => by cases h) | refine Tr.seq (Tr.cond (b := true) rfl (fun _ => ?_) (fun h => by cases h))
        first | refine tr_seq_region (by rw [hE]; rfl) ?_ | (refine Tr.seq ?_; refine tr_seq_region (by rw [hE]; rfl) ?_)
        repeat (refine vc_op rfl ?_; simp only [go_sem, seval])
        refine vc_nil ?_
        refine Tr.ret ?_
        simp only [er, Tryd.f39, go_sem, seval]
      · have es : decide (1099511627776 < n.slot) = false := decide_eq_false hs
        have es' : decide (n.slot ≤ 1099511627776) = true := decide_eq_true (by omega)
        by_cases h0 : i = 0
        · have e0 : ((i : Int) == 0) = true := by rw [int_beq]; exact decide_eq_true (by omega)
          have eg : decide ((0 : Int) < (i : Int)) = false := decide_eq_false (by omega)
          rw [if_pos h0] at hf
          by_cases hp1 : n.parent = -1
          · have ep : (n.parent != -1) = false := by simp [hp1]
            have hf1 : fitsB t i = true := by rw [hf]; simp [hp1, es']
            first | apply tr_m (by rw [hE]; rfl) | (refine Tr.seq ?_; apply tr_m (by rw [hE]; rfl))
            intro Q hQ
            simp only [List.toList_toArray, List.map_cons, List.map_nil, mo, guardSlot, Option.map_some, Option.map_none, List.getElem?_toArray, List.getElem?_cons_succ, List.getElem?_cons_zero, Option.bind_some]
            iterate 4 ((refine vm_op ?_); intro r hr; simp only [es, e0, eg, ep, go_sem, seval]; subst hr)
            iterate 7 ((first | refine vm_if rfl ?_ | refine vm_no rfl ?_ | refine vm_skip rfl ?_); intro r hr; simp only [es, e0, eg, ep, go_sem, seval]; subst hr)
            iterate 2 ((refine vm_op ?_); intro r hr; simp only [es, e0, eg, ep, go_sem, seval]; subst hr)
            iterate 13 ((first | refine vm_if rfl ?_ | refine vm_no rfl ?_ | refine vm_skip rfl ?_); intro r hr; simp only [es, e0, eg, ep, go_sem, seval]; subst hr)
            (refine vm_op ?_); intro r hr; simp only [es, e0, eg, ep, go_sem, seval]; subst hr
            exact hQ
            first | refine Tr.cond rfl (fun h => by cases h) (fun _ => ?_) | refine Tr.seq (Tr.cond rfl (fun h => by cases h) (fun _ => ?_))
            refine Tr.skip ?_
            try simp only [blockK, thenK, ↓reduceIte]
            first | apply tr_md mixed [0, 161] rfl (by rw [hE]; rfl) (by kernel_rfl) | (refine Tr.seq ?_; apply tr_md mixed [0, 161] rfl (by rw [hE]; rfl) (by kernel_rfl))
            intro Q hQ
            simp only [List.toList_toArray, List.map_cons, List.map_nil, mo, guardSlot, Option.map_some, Option.map_none, List.getElem?_toArray, List.getElem?_cons_succ, List.getElem?_cons_zero, Option.bind_some]
            iterate 3 ((refine vd2_q rfl ?_); intro r hr; simp only [eg, go_sem, seval]; subst hr)
            iterate 10 ((first | refine vd2_goq rfl rfl ?_ | refine vd2_no rfl ?_ | refine vd2_skip rfl ?_); intro r hr; simp only [eg, go_sem, seval]; subst hr)
            (refine vd2_q rfl ?_); intro r hr; simp only [eg, go_sem, seval]; subst hr
            exact hQ
            first | refine Tr.cond rfl (fun h => by cases h) (fun _ => ?_) | refine Tr.seq (Tr.cond rfl (fun h => by cases h) (fun _ => ?_))
            refine Tr.skip ?_
            try simp only [blockK, thenK, ↓reduceIte]
            first | refine tr_seq_region (by rw [hE]; rfl) ?_ | (refine Tr.seq ?_; refine tr_seq_region (by rw [hE]; rfl) ?_)
            repeat (refine vc_op rfl ?_; simp only [go_sem, seval])
            refine vc_nil ?_
            first | refine Tr.block ?_ | (refine Tr.seq ?_; refine Tr.block ?_)
            refine Tr.loop (st62_1 t n i) (fun k => k ≤ i ∧ ∀ j, j < k → (t.getD j zNode).root ≠ n.root) (fun k => i - k) 0 ⟨Nat.zero_le _, fun j hj => absurd hj (Nat.not_lt_zero j)⟩ ?_ ?_
            · refine wk_ren (fun | 1 => 161 | n => n) ?_ ?_ rfl rfl rfl
              · repeat' (first | exact rfl | exact trivial | constructor)
              · repeat' (first | exact rfl | exact trivial | constructor)
            · rintro k ⟨hk, hkall⟩
              unfold st62_1
              first | refine tr_seq_region (by rw [hE]; rfl) ?_ | (refine Tr.seq ?_; refine tr_seq_region (by rw [hE]; rfl) ?_)
              repeat (refine vc_op rfl ?_; simp only [go_sem, seval])
              refine vc_nil ?_
              first | refine Tr.cond rfl (fun g1 => ?_) (fun g1 => ?_) | refine Tr.seq (Tr.cond rfl (fun g1 => ?_) (fun g1 => ?_))
              · refine Tr.skip ?_
                try simp only [blockK, thenK, ↓reduceIte]
                have hkl : k < i := by have := of_decide_eq_true g1; omega
                have hkt : k < t.length := by omega
                have hkw := wrap_next (n := k) (by omega)
                have hc := nth_map_lt Node.av t k hkt
                have hgk : t.getD k zNode = t[k] := by simp [hkt]
                first | refine Tr.block ?_ | (refine Tr.seq ?_; refine Tr.block ?_)
                by_cases hr : (t[k]).root = n.root
                · have eR : decide ((t[k]).root = n.root) = true := decide_eq_true hr
                  have er : refmayB t = false := hbad (by
                    have : freshB t i = false := by rw [hfresh]; exact not_all_range hkl (by rw [hgk]; exact decide_eq_false (fun h => h hr))
                    rw [this, Bool.and_false])
                  first | apply tr_md mixed [0, 1] rfl (by rw [hE]; rfl) (by kernel_rfl) | (refine Tr.seq ?_; apply tr_md mixed [0, 1] rfl (by rw [hE]; rfl) (by kernel_rfl))
                  intro Q hQ
                  simp only [List.toList_toArray, List.map_cons, List.map_nil, mo, guardSlot, Option.map_some, Option.map_none, List.getElem?_toArray, List.getElem?_cons_succ, List.getElem?_cons_zero, Option.bind_some]
                  iterate 9 ((refine vd2_q rfl ?_); intro r hr; simp only [hc, eR, go_sem, seval]; subst hr)
                  exact hQ
                  first | refine Tr.cond (b := true) rfl (fun _ => ?_) (fun h => by cases h) | refine Tr.seq (Tr.cond (b := true) rfl (fun _ => ?_) (fun h => by cases h))
                  first | refine tr_seq_region (by rw [hE]; rfl) ?_ | (refine Tr.seq ?_; refine tr_seq_region (by rw [hE]; rfl) ?_)
                  repeat (refine vc_op rfl ?_; simp only [go_sem, seval])
                  refine vc_nil ?_
                  refine Tr.ret ?_
                  simp only [er, Tryd.f39, go_sem, seval]
                · have eR : decide ((t[k]).root = n.root) = false := decide_eq_false hr
                  first | apply tr_md mixed [0, 1] rfl (by rw [hE]; rfl) (by kernel_rfl) | (refine Tr.seq ?_; apply tr_md mixed [0, 1] rfl (by rw [hE]; rfl) (by kernel_rfl))
                  intro Q hQ
                  simp only [List.toList_toArray, List.map_cons, List.map_nil, mo, guardSlot, Option.map_some, Option.map_none, List.getElem?_toArray, List.getElem?_cons_succ, List.getElem?_cons_zero, Option.bind_some]
                  iterate 9 ((refine vd2_q rfl ?_); intro r hr; simp only [hc, eR, go_sem, seval]; subst hr)
                  exact hQ
                  first | refine Tr.cond rfl (fun h => by cases h) (fun _ => ?_) | refine Tr.seq (Tr.cond rfl (fun h => by cases h) (fun _ => ?_))
                  refine Tr.skip ?_
                  try simp only [blockK, thenK, ↓reduceIte]
                  refine tr_region (by rw [hE]; rfl) ?_
                  repeat (refine vc_op rfl ?_; simp only [go_sem, seval])
                  refine vc_nil ?_
                  rw [hkw]
                  try simp only [blockK, thenK, ↓reduceIte]
                  refine ⟨k + 1, ⟨hkl, fun j hj => ?_⟩, by omega, ?_⟩
                  · rcases Nat.lt_or_ge j k with hj' | hj'
                    · exact hkall j hj'
                    · rw [show j = k by omega, hgk]; exact hr
                  refine wk_ren (fun n => n) ?_ ?_ rfl rfl rfl
                  · repeat' (first | exact rfl | exact trivial | constructor)
                  · repeat' (first | exact rfl | exact trivial | constructor)
              · refine Tr.exit ?_
                try simp only [blockK, thenK, ↓reduceIte]
                have hki : k = i := by have := of_decide_eq_false g1; omega
                have hfr : freshB t i = true := by
                  rw [hfresh]; exact all_range fun j hj => decide_eq_true (hkall j (by omega))
                refine tr_region (by rw [hE]; rfl) ?_
                repeat (refine vc_op rfl ?_; simp only [go_sem, seval])
                refine vc_nil ?_
                rw [hw]
                try simp only [blockK, thenK, ↓reduceIte]
                refine ⟨i + 1, ⟨hlt, fun j hj => ?_⟩, by omega, ?_⟩
                · rcases Nat.lt_or_ge j i with hj' | hj'
                  · exact hall j hj'
                  · rw [show j = i by omega, hf1, hfr]; rfl
                refine wk_ren (fun n => n) ?_ ?_ rfl rfl rfl
                · repeat' (first | exact rfl | exact trivial | constructor)
                · repeat' (first | exact rfl | exact trivial | constructor)
          · have ep : (n.parent != -1) = true := by simp [hp1]
            have er : refmayB t = false := hbad (by rw [hf]; simp [hp1])
            first | apply tr_m (by rw [hE]; rfl) | (refine Tr.seq ?_; apply tr_m (by rw [hE]; rfl))
            intro Q hQ
            simp only [List.toList_toArray, List.map_cons, List.map_nil, mo, guardSlot, Option.map_some, Option.map_none, List.getElem?_toArray, List.getElem?_cons_succ, List.getElem?_cons_zero, Option.bind_some]
            iterate 4 ((refine vm_op ?_); intro r hr; simp only [es, e0, eg, ep, go_sem, seval]; subst hr)
            iterate 7 ((first | refine vm_if rfl ?_ | refine vm_no rfl ?_ | refine vm_skip rfl ?_); intro r hr; simp only [es, e0, eg, ep, go_sem, seval]; subst hr)
            iterate 2 ((refine vm_op ?_); intro r hr; simp only [es, e0, eg, ep, go_sem, seval]; subst hr)
            iterate 13 ((first | refine vm_if rfl ?_ | refine vm_no rfl ?_ | refine vm_skip rfl ?_); intro r hr; simp only [es, e0, eg, ep, go_sem, seval]; subst hr)
            (refine vm_op ?_); intro r hr; simp only [es, e0, eg, ep, go_sem, seval]; subst hr
            exact hQ
            first | refine Tr.cond (b := true) rfl (fun _ => ?_) (fun h => by cases h) | refine Tr.seq (Tr.cond (b := true) rfl (fun _ => ?_) (fun h => by cases h))
            first | refine tr_seq_region (by rw [hE]; rfl) ?_ | (refine Tr.seq ?_; refine tr_seq_region (by rw [hE]; rfl) ?_)
            repeat (refine vc_op rfl ?_; simp only [go_sem, seval])
            refine vc_nil ?_
            refine Tr.ret ?_
            simp only [er, Tryd.f39, go_sem, seval]
        · have e0 : ((i : Int) == 0) = false := by rw [int_beq]; exact decide_eq_false (by omega)
          have eg : decide ((0 : Int) < (i : Int)) = true := decide_eq_true (by omega)
          rw [if_neg h0] at hf
          by_cases h2 : n.parent < 0
          · have e2 : decide (n.parent < 0) = true := decide_eq_true h2
            have er : refmayB t = false := hbad (by rw [hf, decide_eq_false (p := 0 ≤ n.parent) (by omega)]; rfl)
            first | apply tr_m (by rw [hE]; rfl) | (refine Tr.seq ?_; apply tr_m (by rw [hE]; rfl))
            intro Q hQ
            simp only [List.toList_toArray, List.map_cons, List.map_nil, mo, guardSlot, Option.map_some, Option.map_none, List.getElem?_toArray, List.getElem?_cons_succ, List.getElem?_cons_zero, Option.bind_some]
            iterate 4 ((refine vm_op ?_); intro r hr; simp only [es, e0, eg, e2, go_sem, seval]; subst hr)
            iterate 7 ((first | refine vm_if rfl ?_ | refine vm_no rfl ?_ | refine vm_skip rfl ?_); intro r hr; simp only [es, e0, eg, e2, go_sem, seval]; subst hr)
            iterate 2 ((refine vm_op ?_); intro r hr; simp only [es, e0, eg, e2, go_sem, seval]; subst hr)
            iterate 13 ((first | refine vm_if rfl ?_ | refine vm_no rfl ?_ | refine vm_skip rfl ?_); intro r hr; simp only [es, e0, eg, e2, go_sem, seval]; subst hr)
            (refine vm_op ?_); intro r hr; simp only [es, e0, eg, e2, go_sem, seval]; subst hr
            exact hQ
            first | refine Tr.cond (b := true) rfl (fun _ => ?_) (fun h => by cases h) | refine Tr.seq (Tr.cond (b := true) rfl (fun _ => ?_) (fun h => by cases h))
            first | refine tr_seq_region (by rw [hE]; rfl) ?_ | (refine Tr.seq ?_; refine tr_seq_region (by rw [hE]; rfl) ?_)
            repeat (refine vc_op rfl ?_; simp only [go_sem, seval])
            refine vc_nil ?_
            refine Tr.ret ?_
            simp only [er, Tryd.f39, go_sem, seval]
          · have e2 : decide (n.parent < 0) = false := decide_eq_false h2
            by_cases h3 : (i : Int) ≤ n.parent
            · have e3 : decide ((i : Int) ≤ n.parent) = true := decide_eq_true h3
              have er : refmayB t = false := hbad (by rw [hf, decide_eq_false (p := n.parent < i) (by omega)]; simp)
              first | apply tr_m (by rw [hE]; rfl) | (refine Tr.seq ?_; apply tr_m (by rw [hE]; rfl))
              intro Q hQ
              simp only [List.toList_toArray, List.map_cons, List.map_nil, mo, guardSlot, Option.map_some, Option.map_none, List.getElem?_toArray, List.getElem?_cons_succ, List.getElem?_cons_zero, Option.bind_some]
              iterate 4 ((refine vm_op ?_); intro r hr; simp only [es, e0, eg, e2, e3, go_sem, seval]; subst hr)
              iterate 7 ((first | refine vm_if rfl ?_ | refine vm_no rfl ?_ | refine vm_skip rfl ?_); intro r hr; simp only [es, e0, eg, e2, e3, go_sem, seval]; subst hr)
              iterate 2 ((refine vm_op ?_); intro r hr; simp only [es, e0, eg, e2, e3, go_sem, seval]; subst hr)
              iterate 13 ((first | refine vm_if rfl ?_ | refine vm_no rfl ?_ | refine vm_skip rfl ?_); intro r hr; simp only [es, e0, eg, e2, e3, go_sem, seval]; subst hr)
              (refine vm_op ?_); intro r hr; simp only [es, e0, eg, e2, e3, go_sem, seval]; subst hr
              exact hQ
              first | refine Tr.cond (b := true) rfl (fun _ => ?_) (fun h => by cases h) | refine Tr.seq (Tr.cond (b := true) rfl (fun _ => ?_) (fun h => by cases h))
              first | refine tr_seq_region (by rw [hE]; rfl) ?_ | (refine Tr.seq ?_; refine tr_seq_region (by rw [hE]; rfl) ?_)
              repeat (refine vc_op rfl ?_; simp only [go_sem, seval])
              refine vc_nil ?_
              refine Tr.ret ?_
              simp only [er, Tryd.f39, go_sem, seval]
            · have e3 : decide ((i : Int) ≤ n.parent) = false := decide_eq_false h3
              obtain ⟨p, hp⟩ : ∃ p : Nat, n.parent = p := ⟨n.parent.toNat, by omega⟩
              have hpl : p < t.length := by omega
              have hb := nth_map_lt Node.av t p hpl
              have hf2 : fitsB t i = decide ((t[p]).slot < n.slot) := by
                rw [hf, es', decide_eq_true (p := 0 ≤ n.parent) (by omega), decide_eq_true (p := n.parent < i) (by omega), hp]; simp [hpl]
              rw [hp] at e2 e3
              first | apply tr_m (by rw [hE]; rfl) | (refine Tr.seq ?_; apply tr_m (by rw [hE]; rfl))
              intro Q hQ
              simp only [List.toList_toArray, List.map_cons, List.map_nil, mo, guardSlot, Option.map_some, Option.map_none, List.getElem?_toArray, List.getElem?_cons_succ, List.getElem?_cons_zero, Option.bind_some]
              iterate 4 ((refine vm_op ?_); intro r hr; simp only [es, e0, eg, hp, e2, e3, go_sem, seval]; subst hr)
              iterate 7 ((first | refine vm_if rfl ?_ | refine vm_no rfl ?_ | refine vm_skip rfl ?_); intro r hr; simp only [es, e0, eg, hp, e2, e3, go_sem, seval]; subst hr)
              iterate 2 ((refine vm_op ?_); intro r hr; simp only [es, e0, eg, hp, e2, e3, go_sem, seval]; subst hr)
              iterate 13 ((first | refine vm_if rfl ?_ | refine vm_no rfl ?_ | refine vm_skip rfl ?_); intro r hr; simp only [es, e0, eg, hp, e2, e3, go_sem, seval]; subst hr)
              (refine vm_op ?_); intro r hr; simp only [es, e0, eg, hp, e2, e3, go_sem, seval]; subst hr
              exact hQ
              first | refine Tr.cond rfl (fun h => by cases h) (fun _ => ?_) | refine Tr.seq (Tr.cond rfl (fun h => by cases h) (fun _ => ?_))
              refine Tr.skip ?_
              try simp only [blockK, thenK, ↓reduceIte]
              by_cases h4 : n.slot ≤ (t[p]).slot
              · have e4 : decide (n.slot ≤ (t[p]).slot) = true := decide_eq_true h4
                have er : refmayB t = false := hbad (by rw [hf2, decide_eq_false (by omega)]; rfl)
                first | apply tr_md mixed [0, 161] rfl (by rw [hE]; rfl) (by kernel_rfl) | (refine Tr.seq ?_; apply tr_md mixed [0, 161] rfl (by rw [hE]; rfl) (by kernel_rfl))
                intro Q hQ
                simp only [List.toList_toArray, List.map_cons, List.map_nil, mo, guardSlot, Option.map_some, Option.map_none, List.getElem?_toArray, List.getElem?_cons_succ, List.getElem?_cons_zero, Option.bind_some]
                iterate 3 ((refine vd2_q rfl ?_); intro r hr; simp only [eg, hp, hb, e4, go_sem, seval]; subst hr)
                iterate 10 ((first | refine vd2_goq rfl rfl ?_ | refine vd2_no rfl ?_ | refine vd2_skip rfl ?_); intro r hr; simp only [eg, hp, hb, e4, go_sem, seval]; subst hr)
                (refine vd2_q rfl ?_); intro r hr; simp only [eg, hp, hb, e4, go_sem, seval]; subst hr
                exact hQ
                first | refine Tr.cond (b := true) rfl (fun _ => ?_) (fun h => by cases h) | refine Tr.seq (Tr.cond (b := true) rfl (fun _ => ?_) (fun h => by cases h))
                first | refine tr_seq_region (by rw [hE]; rfl) ?_ | (refine Tr.seq ?_; refine tr_seq_region (by rw [hE]; rfl) ?_)
                repeat (refine vc_op rfl ?_; simp only [go_sem, seval])
                refine vc_nil ?_
                refine Tr.ret ?_
                simp only [er, Tryd.f39, go_sem, seval]
              · have e4 : decide (n.slot ≤ (t[p]).slot) = false := decide_eq_false h4
                have hf1 : fitsB t i = true := by rw [hf2, decide_eq_true (by omega)]
                first | apply tr_md mixed [0, 161] rfl (by rw [hE]; rfl) (by kernel_rfl) | (refine Tr.seq ?_; apply tr_md mixed [0, 161] rfl (by rw [hE]; rfl) (by kernel_rfl))
                intro Q hQ
                simp only [List.toList_toArray, List.map_cons, List.map_nil, mo, guardSlot, Option.map_some, Option.map_none, List.getElem?_toArray, List.getElem?_cons_succ, List.getElem?_cons_zero, Option.bind_some]
                iterate 3 ((refine vd2_q rfl ?_); intro r hr; simp only [eg, hp, hb, e4, go_sem, seval]; subst hr)
                iterate 10 ((first | refine vd2_goq rfl rfl ?_ | refine vd2_no rfl ?_ | refine vd2_skip rfl ?_); intro r hr; simp only [eg, hp, hb, e4, go_sem, seval]; subst hr)
                (refine vd2_q rfl ?_); intro r hr; simp only [eg, hp, hb, e4, go_sem, seval]; subst hr
                exact hQ
                first | refine Tr.cond rfl (fun h => by cases h) (fun _ => ?_) | refine Tr.seq (Tr.cond rfl (fun h => by cases h) (fun _ => ?_))
                refine Tr.skip ?_
                try simp only [blockK, thenK, ↓reduceIte]
                first | refine tr_seq_region (by rw [hE]; rfl) ?_ | (refine Tr.seq ?_; refine tr_seq_region (by rw [hE]; rfl) ?_)
                repeat (refine vc_op rfl ?_; simp only [go_sem, seval])
                refine vc_nil ?_
                first | refine Tr.block ?_ | (refine Tr.seq ?_; refine Tr.block ?_)
                refine Tr.loop (st62_1 t n i) (fun k => k ≤ i ∧ ∀ j, j < k → (t.getD j zNode).root ≠ n.root) (fun k => i - k) 0 ⟨Nat.zero_le _, fun j hj => absurd hj (Nat.not_lt_zero j)⟩ ?_ ?_
                · refine wk_ren (fun | 1 => 161 | n => n) ?_ ?_ rfl rfl rfl
                  · repeat' (first | exact rfl | exact trivial | constructor)
                  · repeat' (first | exact rfl | exact trivial | constructor)
                · rintro k ⟨hk, hkall⟩
                  unfold st62_1
                  first | refine tr_seq_region (by rw [hE]; rfl) ?_ | (refine Tr.seq ?_; refine tr_seq_region (by rw [hE]; rfl) ?_)
                  repeat (refine vc_op rfl ?_; simp only [go_sem, seval])
                  refine vc_nil ?_
                  first | refine Tr.cond rfl (fun g1 => ?_) (fun g1 => ?_) | refine Tr.seq (Tr.cond rfl (fun g1 => ?_) (fun g1 => ?_))
                  · refine Tr.skip ?_
                    try simp only [blockK, thenK, ↓reduceIte]
                    have hkl : k < i := by have := of_decide_eq_true g1; omega
                    have hkt : k < t.length := by omega
                    have hkw := wrap_next (n := k) (by omega)
                    have hc := nth_map_lt Node.av t k hkt
                    have hgk : t.getD k zNode = t[k] := by simp [hkt]
                    first | refine Tr.block ?_ | (refine Tr.seq ?_; refine Tr.block ?_)
                    by_cases hr : (t[k]).root = n.root
                    · have eR : decide ((t[k]).root = n.root) = true := decide_eq_true hr
                      have er : refmayB t = false := hbad (by
                        have : freshB t i = false := by rw [hfresh]; exact not_all_range hkl (by rw [hgk]; exact decide_eq_false (fun h => h hr))
                        rw [this, Bool.and_false])
                      first | apply tr_md mixed [0, 1] rfl (by rw [hE]; rfl) (by kernel_rfl) | (refine Tr.seq ?_; apply tr_md mixed [0, 1] rfl (by rw [hE]; rfl) (by kernel_rfl))
                      intro Q hQ
                      simp only [List.toList_toArray, List.map_cons, List.map_nil, mo, guardSlot, Option.map_some, Option.map_none, List.getElem?_toArray, List.getElem?_cons_succ, List.getElem?_cons_zero, Option.bind_some]
                      iterate 9 ((refine vd2_q rfl ?_); intro r hr; simp only [hc, eR, go_sem, seval]; subst hr)
                      exact hQ
                      first | refine Tr.cond (b := true) rfl (fun _ => ?_) (fun h => by cases h) | refine Tr.seq (Tr.cond (b := true) rfl (fun _ => ?_) (fun h => by cases h))
                      first | refine tr_seq_region (by rw [hE]; rfl) ?_ | (refine Tr.seq ?_; refine tr_seq_region (by rw [hE]; rfl) ?_)
                      repeat (refine vc_op rfl ?_; simp only [go_sem, seval])
                      refine vc_nil ?_
                      refine Tr.ret ?_
                      simp only [er, Tryd.f39, go_sem, seval]
                    · have eR : decide ((t[k]).root = n.root) = false := decide_eq_false hr
                      first | apply tr_md mixed [0, 1] rfl (by rw [hE]; rfl) (by kernel_rfl) | (refine Tr.seq ?_; apply tr_md mixed [0, 1] rfl (by rw [hE]; rfl) (by kernel_rfl))
                      intro Q hQ
                      simp only [List.toList_toArray, List.map_cons, List.map_nil, mo, guardSlot, Option.map_some, Option.map_none, List.getElem?_toArray, List.getElem?_cons_succ, List.getElem?_cons_zero, Option.bind_some]
                      iterate 9 ((refine vd2_q rfl ?_); intro r hr; simp only [hc, eR, go_sem, seval]; subst hr)
                      exact hQ
                      first | refine Tr.cond rfl (fun h => by cases h) (fun _ => ?_) | refine Tr.seq (Tr.cond rfl (fun h => by cases h) (fun _ => ?_))
                      refine Tr.skip ?_
                      try simp only [blockK, thenK, ↓reduceIte]
                      refine tr_region (by rw [hE]; rfl) ?_
                      repeat (refine vc_op rfl ?_; simp only [go_sem, seval])
                      refine vc_nil ?_
                      rw [hkw]
                      try simp only [blockK, thenK, ↓reduceIte]
                      refine ⟨k + 1, ⟨hkl, fun j hj => ?_⟩, by omega, ?_⟩
                      · rcases Nat.lt_or_ge j k with hj' | hj'
                        · exact hkall j hj'
                        · rw [show j = k by omega, hgk]; exact hr
                      refine wk_ren (fun n => n) ?_ ?_ rfl rfl rfl
                      · repeat' (first | exact rfl | exact trivial | constructor)
                      · repeat' (first | exact rfl | exact trivial | constructor)
                  · refine Tr.exit ?_
                    try simp only [blockK, thenK, ↓reduceIte]
                    have hki : k = i := by have := of_decide_eq_false g1; omega
                    have hfr : freshB t i = true := by
                      rw [hfresh]; exact all_range fun j hj => decide_eq_true (hkall j (by omega))
                    refine tr_region (by rw [hE]; rfl) ?_
                    repeat (refine vc_op rfl ?_; simp only [go_sem, seval])
                    refine vc_nil ?_
                    rw [hw]
                    try simp only [blockK, thenK, ↓reduceIte]
                    refine ⟨i + 1, ⟨hlt, fun j hj => ?_⟩, by omega, ?_⟩
                    · rcases Nat.lt_or_ge j i with hj' | hj'
                      · exact hall j hj'
                      · rw [show j = i by omega, hf1, hfr]; rfl
                    refine wk_ren (fun n => n) ?_ ?_ rfl rfl rfl
                    · repeat' (first | exact rfl | exact trivial | constructor)
                    · repeat' (first | exact rfl | exact trivial | constructor)
    · refine Tr.exit ?_
      try simp only [blockK, thenK, ↓reduceIte]
      have hil : i = t.length := by have := of_decide_eq_false h1; omega
      subst hil
      have er : refmayB t = (decide (1 ≤ t.length) && decide (t.length ≤ 12)) := by unfold refmayB; rw [all_range hall, Bool.true_and]
      by_cases h5 : 1 ≤ t.length
      · have e5 : decide ((1 : Int) ≤ (t.length : Int)) = true := decide_eq_true (by omega)
        have er2 : refmayB t = decide ((t.length : Int) ≤ 12) := by
          rw [er, decide_eq_true h5, Bool.true_and]; exact decide_eq_decide.2 (by omega)
        first | apply tr_m (by rw [hE]; rfl) | (refine Tr.seq ?_; apply tr_m (by rw [hE]; rfl))
        intro Q hQ
        simp only [List.toList_toArray, List.map_cons, List.map_nil, mo, guardSlot, Option.map_some, Option.map_none, List.getElem?_toArray, List.getElem?_cons_succ, List.getElem?_cons_zero, Option.bind_some]
        iterate 5 ((refine vm_op ?_); intro r hr; simp only [e5, go_sem, seval]; subst hr)
        iterate 4 ((first | refine vm_if rfl ?_ | refine vm_no rfl ?_ | refine vm_skip rfl ?_); intro r hr; simp only [e5, go_sem, seval]; subst hr)
        iterate 2 ((refine vm_op ?_); intro r hr; simp only [e5, go_sem, seval]; subst hr)
        exact hQ
        refine Tr.ret ?_
        simp only [er2, Tryd.f39, go_sem, seval]
      · have e5 : decide ((1 : Int) ≤ (t.length : Int)) = false := decide_eq_false (by omega)
        have er2 : refmayB t = false := by rw [er, decide_eq_false h5]; rfl
        first | apply tr_m (by rw [hE]; rfl) | (refine Tr.seq ?_; apply tr_m (by rw [hE]; rfl))
        intro Q hQ
        simp only [List.toList_toArray, List.map_cons, List.map_nil, mo, guardSlot, Option.map_some, Option.map_none, List.getElem?_toArray, List.getElem?_cons_succ, List.getElem?_cons_zero, Option.bind_some]
        iterate 5 ((refine vm_op ?_); intro r hr; simp only [e5, go_sem, seval]; subst hr)
        iterate 4 ((first | refine vm_if rfl ?_ | refine vm_no rfl ?_ | refine vm_skip rfl ?_); intro r hr; simp only [e5, go_sem, seval]; subst hr)
        iterate 2 ((refine vm_op ?_); intro r hr; simp only [e5, go_sem, seval]; subst hr)
        exact hQ
        refine Tr.ret ?_
        simp only [er2, Tryd.f39, go_sem, seval]
